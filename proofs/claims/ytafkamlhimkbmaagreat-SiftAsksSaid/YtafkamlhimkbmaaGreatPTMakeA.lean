/-
  The six 'found' (printed by wip/mk_found.py).
-/
import Derived.Test.YtafkamlhimkbmaaGreatPRefB
namespace Go.Proofs.YtafkamlhimkbmaaGreat
set_option maxRecDepth 1000000
set_option maxHeartbeats 8000000
set_option linter.unusedSimpArgs false
set_option linter.unusedVariables false
open Go.RowKit
theorem ak.mono {F G:Nat→Prop}{w:World}{sb:Nat}{M:St}(h:ak F w sb M)(j:∀k,F k→G k)(U:∀k,G k→k<w.heap.size):ak G w sb M:=by
 obtain⟨⟨B,ib,ts,s,t,E,I,J,L,N,O,S,T⟩,z,a2,A⟩:=h;exact⟨⟨B,ib,ts,s,t,E,I,J,L,N,fun k q=>j k (O k q),fun k q=>j k (S k q),T⟩,j _ z,U,A⟩
theorem uN {F:Nat→Prop}{w q A w':World}(B:∀k,F k→k<w.heap.size)(s:ae w q)(t:af F q A)(z:af (fun k=>w.heap.size≤k∧k<q.heap.size) A w') :
  af F w w'∧(∀k,aC F q A k→aC F w w' k)∧(∀k,aC F w w' k→k<w'.heap.size)∧∀k,aC F q A k→¬(w.heap.size≤k∧k<q.heap.size):=by
 have q:=s.size
 have q:=t.size
 have q:=z.size
 refine⟨⟨z.os.trans (t.os.trans s.os),z.tape.trans (t.tape.trans s.tape),z.output.trans (t.output.trans s.output),by omega,fun k j q=>?_⟩,?_,?_,?_⟩
 ·rw[z.block k (by omega) (by omega),t.block k (by omega) q,s.block k j]
 ·intro k j;rcases j with j|j;·exact .inl j
  ·exact .inr ⟨by omega,by omega⟩
 ·intro k j;rcases j with j|j;·have:=B k j;omega
  ·exact j.2
 ·intro k j q;rcases j with j|j;·have:=B k j;omega
  ·omega
theorem ak.after {F:Nat→Prop}{w j q w':World}{sb:Nat}{M:St}(B:∀k,F k→k<w.heap.size)(t:ae w j)(z:af F j q)(A:ak (aC F j q) q sb M)(s:af (fun k=>w.heap.size≤k∧k<j.heap.size) q w') :
  af F w w'∧ak (aC F w w') w' sb M:=by
 obtain⟨a,b,c,d⟩:=uN B t z s
 exact⟨a,(A.a4 s d).mono b c⟩
theorem DA {F:Nat→Prop}(sb:Nat)(r:Rec)(id:Int)(w:World)(S:sb<w.heap.size)(A:∀k,F k→k<w.heap.size)(R:World→World→Prop)
  (z:∀j,ae w j→Calls Tryz.prog 80 #[.pointer (some ⟨sb,0,none⟩),.agg #[.int .u8 r.al,.int .u8 r.I,.int .u8 r.J,.int .u8 r.lo.tag,.int .u32 r.lo.to,.int .u8 r.hi.tag,.int .u32 r.hi.to]] j fun e w'=>e=.returned (.tuple #[.int .u32 id,.int .u8 0])∧af F j w'∧R j w') :
  Calls Tryz.prog 190 #[.pointer (some ⟨sb,0,none⟩),.agg #[.int .u8 r.al,.int .u8 r.I,.int .u8 r.J,.int .u8 r.lo.tag,.int .u32 r.lo.to,.int .u8 r.hi.tag,.int .u32 r.hi.to]] w fun e w'=>e=.returned (.tuple #[.agg #[.int .u8 r.I,.int .u32 id],.int .u8 0]) ∧
   ∃j s,ae w j∧af F j s∧R j s∧af (fun k=>w.heap.size≤k∧k<j.heap.size) s w':=by
 have B:=aa z
 have j:=aa A
 clear z A
 have L:¬F w.heap.size:=fun h=>by have:=j.out _ h;omega
 have t:¬F (w.heap.size+1):=fun h=>by have:=j.out _ h;omega
 go_enter Tryz.func190,Tryz.ntmps190
 go_wp2_with (go_at_call 80;refine(B.out _ kp).mono ?_;rintro e w1 ⟨rfl,q,E⟩;have I:=q.size;simp only[ai]at I;have j:=q.cell (a:=⟨w.heap.size,1,none⟩) L (v:=.int .u8 r.I) (by simp);have N:=q.cell (a:=⟨w.heap.size+1,0,none⟩) t (v:=.int .u8 0) (by simp);have O:=q.cell (a:=⟨w.heap.size+1,1,none⟩) t (v:=.int .u32 0) (by simp);have j:=fun o:Nat=>q.frozen (a:=⟨w.heap.size+1,o,none⟩) (by simp) t (by simp);have J:w.heap.size+1<w1.heap.size:=(by omega);have j:w.heap.size<w1.heap.size:=(by omega))
 refine aq (v:=.tuple #[.agg #[.int .u8 r.I,.int .u32 id],.int .u8 0]) (by simp[results,Tryz.results190,go_sem,J,N,O]) rfl ⟨rfl,_,w1,?_,q,E,?_⟩
 ·(exact kp)
 ·(have j:(w.alloc (.cells #[.int .u8 r.al,.int .u8 r.I,.int .u8 r.J,.int .u8 r.lo.tag,.int .u32 r.lo.to,.int .u8 r.hi.tag,.int .u32 r.hi.to] 134)).heap.size=w.heap.size+1:=by simp);(try simp only[ai]);(repeat (first|with_reducible exact af.refl _ _|refine af.setCell ?_ (Or.inl (by dsimp only;omega)) _|with_reducible refine af.drewN ?_ _|with_reducible refine af.drew ?_|with_reducible refine af.alloc ?_ _))
theorem Dz {F:Nat→Prop}(sb:Nat)(r:Rec)(id s:Int)(T:s≠0)(w:World)(U:sb<w.heap.size)(B:∀k,F k→k<w.heap.size)(R:World→World→Prop)
  (A:∀j,ae w j→Calls Tryz.prog 80 #[.pointer (some ⟨sb,0,none⟩),.agg #[.int .u8 r.al,.int .u8 r.I,.int .u8 r.J,.int .u8 r.lo.tag,.int .u32 r.lo.to,.int .u8 r.hi.tag,.int .u32 r.hi.to]] j fun e w'=>e=.returned (.tuple #[.int .u32 id,.int .u8 s])∧af F j w'∧R j w') :
  Calls Tryz.prog 190 #[.pointer (some ⟨sb,0,none⟩),.agg #[.int .u8 r.al,.int .u8 r.I,.int .u8 r.J,.int .u8 r.lo.tag,.int .u32 r.lo.to,.int .u8 r.hi.tag,.int .u32 r.hi.to]] w fun e w'=>e=.returned (.tuple #[.agg #[.int .u8 0,.int .u32 0],.int .u8 s]) ∧
   ∃j t,ae w j∧af F j t∧R j t∧af (fun k=>w.heap.size≤k∧k<j.heap.size) t w':=by
 have E:=aa A
 have j:=aa B
 clear A B
 have N:¬F w.heap.size:=fun h=>by have:=j.out _ h;omega
 have z:¬F (w.heap.size+1):=fun h=>by have:=j.out _ h;omega
 go_enter Tryz.func190,Tryz.ntmps190
 go_wp2_with (go_at_call 80;refine(E.out _ kp).mono ?_;rintro e w1 ⟨rfl,q,I⟩;have J:=q.size;simp only[ai]at J;have j:=q.cell (a:=⟨w.heap.size,1,none⟩) N (v:=.int .u8 r.I) (by simp);have O:=q.cell (a:=⟨w.heap.size+1,0,none⟩) z (v:=.int .u8 0) (by simp);have S:=q.cell (a:=⟨w.heap.size+1,1,none⟩) z (v:=.int .u32 0) (by simp);have j:=fun o:Nat=>q.frozen (a:=⟨w.heap.size+1,o,none⟩) (by simp) z (by simp);have L:w.heap.size+1<w1.heap.size:=(by omega);have j:w.heap.size<w1.heap.size:=(by omega))
 refine aq (v:=.tuple #[.agg #[.int .u8 0,.int .u32 0],.int .u8 s]) (by simp[results,Tryz.results190,go_sem,L,O,S]) rfl ⟨rfl,_,w1,?_,q,I,?_⟩
 ·(exact kp)
 ·(have j:(w.alloc (.cells #[.int .u8 r.al,.int .u8 r.I,.int .u8 r.J,.int .u8 r.lo.tag,.int .u32 r.lo.to,.int .u8 r.hi.tag,.int .u32 r.hi.to] 134)).heap.size=w.heap.size+1:=by simp);(try simp only[ai]);(repeat (first|with_reducible exact af.refl _ _|refine af.setCell ?_ (Or.inl (by dsimp only;omega)) _|with_reducible refine af.drewN ?_ _|with_reducible refine af.drew ?_|with_reducible refine af.alloc ?_ _))
theorem wM {F:Nat→Prop}(sb:Nat)(r:Rec)(id:Int)(w:World)(S:sb<w.heap.size)(A:∀k,F k→k<w.heap.size)(R:World→World→Prop)
  (z:∀j,ae w j→Calls Tryz.prog 80 #[.pointer (some ⟨sb,0,none⟩),.agg #[.int .u8 r.al,.int .u8 r.I,.int .u8 r.J,.int .u8 r.lo.tag,.int .u32 r.lo.to,.int .u8 r.hi.tag,.int .u32 r.hi.to]] j fun e w'=>e=.returned (.tuple #[.int .u32 id,.int .u8 0])∧af F j w'∧R j w') :
  Calls Tryz.prog 188 #[.pointer (some ⟨sb,0,none⟩),.agg #[.int .u8 r.al,.int .u8 r.I,.int .u8 r.J,.int .u8 r.lo.tag,.int .u32 r.lo.to,.int .u8 r.hi.tag,.int .u32 r.hi.to]] w fun e w'=>e=.returned (.tuple #[.agg #[.int .u8 0,.int .u32 id],.int .u8 0]) ∧
   ∃j s,ae w j∧af F j s∧R j s∧af (fun k=>w.heap.size≤k∧k<j.heap.size) s w':=by
 have B:=aa z
 have j:=aa A
 clear z A
 have L:¬F w.heap.size:=fun h=>by have:=j.out _ h;omega
 have t:¬F (w.heap.size+1):=fun h=>by have:=j.out _ h;omega
 go_enter Tryz.func188,Tryz.ntmps188
 go_wp2_with (go_at_call 80;refine(B.out _ kp).mono ?_;rintro e w1 ⟨rfl,q,E⟩;have I:=q.size;simp only[ai]at I;have j:=q.cell (a:=⟨w.heap.size,1,none⟩) L (v:=.int .u8 r.I) (by simp);have N:=q.cell (a:=⟨w.heap.size+1,0,none⟩) t (v:=.int .u8 0) (by simp);have O:=q.cell (a:=⟨w.heap.size+1,1,none⟩) t (v:=.int .u32 0) (by simp);have j:=fun o:Nat=>q.frozen (a:=⟨w.heap.size+1,o,none⟩) (by simp) t (by simp);have J:w.heap.size+1<w1.heap.size:=(by omega);have j:w.heap.size<w1.heap.size:=(by omega))
 refine aq (v:=.tuple #[.agg #[.int .u8 0,.int .u32 id],.int .u8 0]) (by simp[results,Tryz.results188,go_sem,J,N,O]) rfl ⟨rfl,_,w1,?_,q,E,?_⟩
 ·(exact kp)
 ·(have j:(w.alloc (.cells #[.int .u8 r.al,.int .u8 r.I,.int .u8 r.J,.int .u8 r.lo.tag,.int .u32 r.lo.to,.int .u8 r.hi.tag,.int .u32 r.hi.to] 134)).heap.size=w.heap.size+1:=by simp);(try simp only[ai]);(repeat (first|with_reducible exact af.refl _ _|refine af.setCell ?_ (Or.inl (by dsimp only;omega)) _|with_reducible refine af.drewN ?_ _|with_reducible refine af.drew ?_|with_reducible refine af.alloc ?_ _))
theorem wL {F:Nat→Prop}(sb:Nat)(r:Rec)(id s:Int)(T:s≠0)(w:World)(U:sb<w.heap.size)(B:∀k,F k→k<w.heap.size)(R:World→World→Prop)
  (A:∀j,ae w j→Calls Tryz.prog 80 #[.pointer (some ⟨sb,0,none⟩),.agg #[.int .u8 r.al,.int .u8 r.I,.int .u8 r.J,.int .u8 r.lo.tag,.int .u32 r.lo.to,.int .u8 r.hi.tag,.int .u32 r.hi.to]] j fun e w'=>e=.returned (.tuple #[.int .u32 id,.int .u8 s])∧af F j w'∧R j w') :
  Calls Tryz.prog 188 #[.pointer (some ⟨sb,0,none⟩),.agg #[.int .u8 r.al,.int .u8 r.I,.int .u8 r.J,.int .u8 r.lo.tag,.int .u32 r.lo.to,.int .u8 r.hi.tag,.int .u32 r.hi.to]] w fun e w'=>e=.returned (.tuple #[.agg #[.int .u8 0,.int .u32 0],.int .u8 s]) ∧
   ∃j t,ae w j∧af F j t∧R j t∧af (fun k=>w.heap.size≤k∧k<j.heap.size) t w':=by
 have E:=aa A
 have j:=aa B
 clear A B
 have N:¬F w.heap.size:=fun h=>by have:=j.out _ h;omega
 have z:¬F (w.heap.size+1):=fun h=>by have:=j.out _ h;omega
 go_enter Tryz.func188,Tryz.ntmps188
 go_wp2_with (go_at_call 80;refine(E.out _ kp).mono ?_;rintro e w1 ⟨rfl,q,I⟩;have J:=q.size;simp only[ai]at J;have j:=q.cell (a:=⟨w.heap.size,1,none⟩) N (v:=.int .u8 r.I) (by simp);have O:=q.cell (a:=⟨w.heap.size+1,0,none⟩) z (v:=.int .u8 0) (by simp);have S:=q.cell (a:=⟨w.heap.size+1,1,none⟩) z (v:=.int .u32 0) (by simp);have j:=fun o:Nat=>q.frozen (a:=⟨w.heap.size+1,o,none⟩) (by simp) z (by simp);have L:w.heap.size+1<w1.heap.size:=(by omega);have j:w.heap.size<w1.heap.size:=(by omega))
 refine aq (v:=.tuple #[.agg #[.int .u8 0,.int .u32 0],.int .u8 s]) (by simp[results,Tryz.results188,go_sem,L,O,S]) rfl ⟨rfl,_,w1,?_,q,I,?_⟩
 ·(exact kp)
 ·(have j:(w.alloc (.cells #[.int .u8 r.al,.int .u8 r.I,.int .u8 r.J,.int .u8 r.lo.tag,.int .u32 r.lo.to,.int .u8 r.hi.tag,.int .u32 r.hi.to] 134)).heap.size=w.heap.size+1:=by simp);(try simp only[ai]);(repeat (first|with_reducible exact af.refl _ _|refine af.setCell ?_ (Or.inl (by dsimp only;omega)) _|with_reducible refine af.drewN ?_ _|with_reducible refine af.drew ?_|with_reducible refine af.alloc ?_ _))
theorem Ev {F:Nat→Prop}(sb:Nat)(r:Rec)(id:Int)(w:World)(S:sb<w.heap.size)(A:∀k,F k→k<w.heap.size)(R:World→World→Prop)
  (z:∀j,ae w j→Calls Tryz.prog 80 #[.pointer (some ⟨sb,0,none⟩),.agg #[.int .u8 r.al,.int .u8 r.I,.int .u8 r.J,.int .u8 r.lo.tag,.int .u32 r.lo.to,.int .u8 r.hi.tag,.int .u32 r.hi.to]] j fun e w'=>e=.returned (.tuple #[.int .u32 id,.int .u8 0])∧af F j w'∧R j w') :
  Calls Tryz.prog 189 #[.pointer (some ⟨sb,0,none⟩),.agg #[.int .u8 r.al,.int .u8 r.I,.int .u8 r.J,.int .u8 r.lo.tag,.int .u32 r.lo.to,.int .u8 r.hi.tag,.int .u32 r.hi.to]] w fun e w'=>e=.returned (.tuple #[.agg #[.int .u8 0,.int .u32 id],.int .u8 0]) ∧
   ∃j s,ae w j∧af F j s∧R j s∧af (fun k=>w.heap.size≤k∧k<j.heap.size) s w':=by
 have B:=aa z
 have j:=aa A
 clear z A
 have L:¬F w.heap.size:=fun h=>by have:=j.out _ h;omega
 have t:¬F (w.heap.size+1):=fun h=>by have:=j.out _ h;omega
 go_enter Tryz.func189,Tryz.ntmps189
 go_wp2_with (go_at_call 80;refine(B.out _ kp).mono ?_;rintro e w1 ⟨rfl,q,E⟩;have I:=q.size;simp only[ai]at I;have j:=q.cell (a:=⟨w.heap.size,1,none⟩) L (v:=.int .u8 r.I) (by simp);have N:=q.cell (a:=⟨w.heap.size+1,0,none⟩) t (v:=.int .u8 0) (by simp);have O:=q.cell (a:=⟨w.heap.size+1,1,none⟩) t (v:=.int .u32 0) (by simp);have j:=fun o:Nat=>q.frozen (a:=⟨w.heap.size+1,o,none⟩) (by simp) t (by simp);have J:w.heap.size+1<w1.heap.size:=(by omega);have j:w.heap.size<w1.heap.size:=(by omega))
 refine aq (v:=.tuple #[.agg #[.int .u8 0,.int .u32 id],.int .u8 0]) (by simp[results,Tryz.results189,go_sem,J,N,O]) rfl ⟨rfl,_,w1,?_,q,E,?_⟩
 ·(exact kp)
 ·(have j:(w.alloc (.cells #[.int .u8 r.al,.int .u8 r.I,.int .u8 r.J,.int .u8 r.lo.tag,.int .u32 r.lo.to,.int .u8 r.hi.tag,.int .u32 r.hi.to] 134)).heap.size=w.heap.size+1:=by simp);(try simp only[ai]);(repeat (first|with_reducible exact af.refl _ _|refine af.setCell ?_ (Or.inl (by dsimp only;omega)) _|with_reducible refine af.drewN ?_ _|with_reducible refine af.drew ?_|with_reducible refine af.alloc ?_ _))
theorem Eu {F:Nat→Prop}(sb:Nat)(r:Rec)(id s:Int)(T:s≠0)(w:World)(U:sb<w.heap.size)(B:∀k,F k→k<w.heap.size)(R:World→World→Prop)
  (A:∀j,ae w j→Calls Tryz.prog 80 #[.pointer (some ⟨sb,0,none⟩),.agg #[.int .u8 r.al,.int .u8 r.I,.int .u8 r.J,.int .u8 r.lo.tag,.int .u32 r.lo.to,.int .u8 r.hi.tag,.int .u32 r.hi.to]] j fun e w'=>e=.returned (.tuple #[.int .u32 id,.int .u8 s])∧af F j w'∧R j w') :
  Calls Tryz.prog 189 #[.pointer (some ⟨sb,0,none⟩),.agg #[.int .u8 r.al,.int .u8 r.I,.int .u8 r.J,.int .u8 r.lo.tag,.int .u32 r.lo.to,.int .u8 r.hi.tag,.int .u32 r.hi.to]] w fun e w'=>e=.returned (.tuple #[.agg #[.int .u8 0,.int .u32 0],.int .u8 s]) ∧
   ∃j t,ae w j∧af F j t∧R j t∧af (fun k=>w.heap.size≤k∧k<j.heap.size) t w':=by
 have E:=aa A
 have j:=aa B
 clear A B
 have N:¬F w.heap.size:=fun h=>by have:=j.out _ h;omega
 have z:¬F (w.heap.size+1):=fun h=>by have:=j.out _ h;omega
 go_enter Tryz.func189,Tryz.ntmps189
 go_wp2_with (go_at_call 80;refine(E.out _ kp).mono ?_;rintro e w1 ⟨rfl,q,I⟩;have J:=q.size;simp only[ai]at J;have j:=q.cell (a:=⟨w.heap.size,1,none⟩) N (v:=.int .u8 r.I) (by simp);have O:=q.cell (a:=⟨w.heap.size+1,0,none⟩) z (v:=.int .u8 0) (by simp);have S:=q.cell (a:=⟨w.heap.size+1,1,none⟩) z (v:=.int .u32 0) (by simp);have j:=fun o:Nat=>q.frozen (a:=⟨w.heap.size+1,o,none⟩) (by simp) z (by simp);have L:w.heap.size+1<w1.heap.size:=(by omega);have j:w.heap.size<w1.heap.size:=(by omega))
 refine aq (v:=.tuple #[.agg #[.int .u8 0,.int .u32 0],.int .u8 s]) (by simp[results,Tryz.results189,go_sem,L,O,S]) rfl ⟨rfl,_,w1,?_,q,I,?_⟩
 ·(exact kp)
 ·(have j:(w.alloc (.cells #[.int .u8 r.al,.int .u8 r.I,.int .u8 r.J,.int .u8 r.lo.tag,.int .u32 r.lo.to,.int .u8 r.hi.tag,.int .u32 r.hi.to] 134)).heap.size=w.heap.size+1:=by simp);(try simp only[ai]);(repeat (first|with_reducible exact af.refl _ _|refine af.setCell ?_ (Or.inl (by dsimp only;omega)) _|with_reducible refine af.drewN ?_ _|with_reducible refine af.drew ?_|with_reducible refine af.alloc ?_ _))
theorem xH (x y:Edge)(h:x=y)(j:World):(binOp .eql 52 (.agg #[.int .u8 x.tag,.int .u32 x.to]) (.agg #[.int .u8 y.tag,.int .u32 y.to])).run Tryz.prog j=.ok (.bool true) j:=by rw[mR];simp[h]
theorem oo (x y:Edge)(h:x≠y)(j:World):(binOp .eql 52 (.agg #[.int .u8 x.tag,.int .u32 x.to]) (.agg #[.int .u8 y.tag,.int .u32 y.to])).run Tryz.prog j=.ok (.bool false) j:=by rw[mR];simp[h]
theorem DG (sb:Nat)(l n:Int)(lo hi:Edge)(w:World)(z:n≤16)
  (A:sb<w.heap.size)
  (q:∀j,ae w j→Calls Tryz.prog 48 #[.pointer (some ⟨sb,0,none⟩)] j fun e w'=>e=.returned (.int .i64 n)∧j=w')
  (t:l<0)
  : Calls Tryz.prog 125 #[.pointer (some ⟨sb,0,none⟩),.int .i64 l,.agg #[.int .u8 lo.tag,.int .u32 lo.to],.agg #[.int .u8 hi.tag,.int .u32 hi.to]] w fun e w'=>e=.returned (.tuple #[.agg #[.int .u8 0,.int .u32 0],.int .u8 3])∧ae w w':=by
 have j:sb<w.heap.size+1:=by omega
 have j:sb<w.heap.size+1+1:=by omega
 have s:=aa q
 clear q
 go_enter Tryz.func125,Tryz.ntmps125
 go_wp2_with (first|(go_at_call 48;refine(s.out _ kp).mono ?_;rintro e w' ⟨rfl,rfl⟩)|fail)
 all_goals refine aq (v:=.tuple #[.agg #[.int .u8 0,.int .u32 0],.int .u8 3]) (by simp[results,Tryz.results125,go_sem]) rfl ⟨rfl,kp⟩
theorem DB (sb:Nat)(l n:Int)(lo hi:Edge)(w:World)(A:n≤16)
  (B:sb<w.heap.size)
  (q:∀j,ae w j→Calls Tryz.prog 48 #[.pointer (some ⟨sb,0,none⟩)] j fun e w'=>e=.returned (.int .i64 n)∧j=w')
  (t:0≤l) (z:n≤l)
  : Calls Tryz.prog 125 #[.pointer (some ⟨sb,0,none⟩),.int .i64 l,.agg #[.int .u8 lo.tag,.int .u32 lo.to],.agg #[.int .u8 hi.tag,.int .u32 hi.to]] w fun e w'=>e=.returned (.tuple #[.agg #[.int .u8 0,.int .u32 0],.int .u8 3])∧ae w w':=by
 have j:sb<w.heap.size+1:=by omega
 have j:sb<w.heap.size+1+1:=by omega
 have s:=aa q
 clear q
 go_enter Tryz.func125,Tryz.ntmps125
 go_wp2_with (first|(go_at_call 48;refine(s.out _ kp).mono ?_;rintro e w' ⟨rfl,rfl⟩)|fail)
 all_goals refine aq (v:=.tuple #[.agg #[.int .u8 0,.int .u32 0],.int .u8 3]) (by simp[results,Tryz.results125,go_sem]) rfl ⟨rfl,kp⟩
theorem DF (sb:Nat)(l n:Int)(lo hi:Edge)(w:World)(O:n≤16)
  (S:sb<w.heap.size)
  (t:∀q,ae w q→Calls Tryz.prog 48 #[.pointer (some ⟨sb,0,none⟩)] q fun e w'=>e=.returned (.int .i64 n)∧q=w')
  (L:0≤l) (N:l<n)
  (s:∀q,ae w q→Calls Tryz.prog 134 #[.pointer (some ⟨sb,0,none⟩),.int .u8 5,.agg #[.int .u8 lo.tag,.int .u32 lo.to],.int .i64 (l+1)] q fun e w'=>e=.returned (.bool false)∧ae q w')
  : Calls Tryz.prog 125 #[.pointer (some ⟨sb,0,none⟩),.int .i64 l,.agg #[.int .u8 lo.tag,.int .u32 lo.to],.agg #[.int .u8 hi.tag,.int .u32 hi.to]] w fun e w'=>e=.returned (.tuple #[.agg #[.int .u8 0,.int .u32 0],.int .u8 1])∧ae w w':=by
 have q:sb<w.heap.size+1:=by omega
 have q:sb<w.heap.size+1+1:=by omega
 have A:=aa t
 clear t
 have z:=aa s
 clear s
 go_enter Tryz.func125,Tryz.ntmps125
 go_wp2_with (first|(go_at_call 48;refine(A.out _ kp).mono ?_;rintro e w' ⟨rfl,rfl⟩)|fail)
 (go_at_call 134;refine(z.out _ kp).mono ?_;rintro e w1 ⟨rfl,j⟩;have B:=j.size;simp only[ai]at B;have q:w.heap.size<w1.heap.size:=(by omega);have q:w.heap.size+1<w1.heap.size:=(by omega);have E:w.heap.size+2<w1.heap.size:=(by omega);have q:=j.U (a:=⟨w.heap.size,0,none⟩) (v:=.int .u8 lo.tag);have q:=j.U (a:=⟨w.heap.size,1,none⟩) (v:=.int .u32 lo.to);have q:=j.U (a:=⟨w.heap.size+1,0,none⟩) (v:=.int .u8 hi.tag);have q:=j.U (a:=⟨w.heap.size+1,1,none⟩) (v:=.int .u32 hi.to);have I:=j.U (a:=⟨w.heap.size+2,0,none⟩) (v:=.int .u8 0);have J:=j.U (a:=⟨w.heap.size+2,1,none⟩) (v:=.int .u32 0);have q:=fun o:Nat=>(j.av (fun _=>False)).frozen (a:=⟨w.heap.size+2,o,none⟩) (by simp[go_sem]) (fun h=>h) (by simp[go_sem]);have j:ae w w1:=kp)
 go_wp2_with fail
 all_goals refine aq (v:=.tuple #[.agg #[.int .u8 0,.int .u32 0],.int .u8 1]) (by simp[results,Tryz.results125,go_sem,E,I,J]) rfl ⟨rfl,kp⟩
theorem DE (sb:Nat)(l n:Int)(lo hi:Edge)(w:World)(al:n≤16)
  (am:sb<w.heap.size)
  (E:∀q,ae w q→Calls Tryz.prog 48 #[.pointer (some ⟨sb,0,none⟩)] q fun e w'=>e=.returned (.int .i64 n)∧q=w')
  (ab:0≤l) (ad:l<n)
  (A:∀q,ae w q→Calls Tryz.prog 134 #[.pointer (some ⟨sb,0,none⟩),.int .u8 5,.agg #[.int .u8 lo.tag,.int .u32 lo.to],.int .i64 (l+1)] q fun e w'=>e=.returned (.bool true)∧ae q w')
  (z:∀q,ae w q→Calls Tryz.prog 134 #[.pointer (some ⟨sb,0,none⟩),.int .u8 5,.agg #[.int .u8 hi.tag,.int .u32 hi.to],.int .i64 (l+1)] q fun e w'=>e=.returned (.bool false)∧ae q w')
  : Calls Tryz.prog 125 #[.pointer (some ⟨sb,0,none⟩),.int .i64 l,.agg #[.int .u8 lo.tag,.int .u32 lo.to],.agg #[.int .u8 hi.tag,.int .u32 hi.to]] w fun e w'=>e=.returned (.tuple #[.agg #[.int .u8 0,.int .u32 0],.int .u8 1])∧ae w w':=by
 have q:sb<w.heap.size+1:=by omega
 have q:sb<w.heap.size+1+1:=by omega
 have W:=aa E
 clear E
 have U:=aa A
 clear A
 have T:=aa z
 clear z
 go_enter Tryz.func125,Tryz.ntmps125
 go_wp2_with (first|(go_at_call 48;refine(W.out _ kp).mono ?_;rintro e w' ⟨rfl,rfl⟩)|fail)
 (go_at_call 134;refine(U.out _ kp).mono ?_;rintro e w1 ⟨rfl,j⟩;have B:=j.size;simp only[ai]at B;have Y:w.heap.size<w1.heap.size:=(by omega);have Z:w.heap.size+1<w1.heap.size:=(by omega);have I:w.heap.size+2<w1.heap.size:=(by omega);have N:=j.U (a:=⟨w.heap.size,0,none⟩) (v:=.int .u8 lo.tag);have O:=j.U (a:=⟨w.heap.size,1,none⟩) (v:=.int .u32 lo.to);have J:=j.U (a:=⟨w.heap.size+1,0,none⟩) (v:=.int .u8 hi.tag);have L:=j.U (a:=⟨w.heap.size+1,1,none⟩) (v:=.int .u32 hi.to);have s:=j.U (a:=⟨w.heap.size+2,0,none⟩) (v:=.int .u8 0);have t:=j.U (a:=⟨w.heap.size+2,1,none⟩) (v:=.int .u32 0);have S:=fun o:Nat=>(j.av (fun _=>False)).frozen (a:=⟨w.heap.size+2,o,none⟩) (by simp[go_sem]) (fun h=>h) (by simp[go_sem]);have X:ae w w1:=kp)
 go_wp2_with fail
 (go_at_call 134;refine(T.out _ kp).mono ?_;rintro e w1 ⟨rfl,j⟩;have B:=j.size;have S:=fun o:Nat=>(j.av (fun _=>False)).frozen (a:=⟨w.heap.size+2,o,none⟩) (by dsimp only;omega) (fun h=>h) (S o);have N:=j.cell N;have O:=j.cell O;have J:=j.cell J;have L:=j.cell L;have s:=j.cell s;have t:=j.cell t;have Y:w.heap.size<w1.heap.size:=(by omega);have Z:w.heap.size+1<w1.heap.size:=(by omega);have I:w.heap.size+2<w1.heap.size:=(by omega);have X:ae w w1:=kp)
 go_wp2_with fail
 all_goals refine aq (v:=.tuple #[.agg #[.int .u8 0,.int .u32 0],.int .u8 1]) (by simp[results,Tryz.results125,go_sem,I,s,t]) rfl ⟨rfl,kp⟩
theorem DH (sb:Nat)(l n:Int)(lo hi:Edge)(w:World)(am:n≤16)
  (av:sb<w.heap.size)
  (I:∀q,ae w q→Calls Tryz.prog 48 #[.pointer (some ⟨sb,0,none⟩)] q fun e w'=>e=.returned (.int .i64 n)∧q=w')
  (ad:0≤l) (al:l<n)
  (s:lo=hi)
  (B:∀q,ae w q→Calls Tryz.prog 134 #[.pointer (some ⟨sb,0,none⟩),.int .u8 5,.agg #[.int .u8 lo.tag,.int .u32 lo.to],.int .i64 (l+1)] q fun e w'=>e=.returned (.bool true)∧ae q w')
  (A:∀q,ae w q→Calls Tryz.prog 134 #[.pointer (some ⟨sb,0,none⟩),.int .u8 5,.agg #[.int .u8 hi.tag,.int .u32 hi.to],.int .i64 (l+1)] q fun e w'=>e=.returned (.bool true)∧ae q w')
  : Calls Tryz.prog 125 #[.pointer (some ⟨sb,0,none⟩),.int .i64 l,.agg #[.int .u8 lo.tag,.int .u32 lo.to],.agg #[.int .u8 hi.tag,.int .u32 hi.to]] w fun e w'=>e=.returned (.tuple #[.agg #[.int .u8 lo.tag,.int .u32 lo.to],.int .u8 0])∧ae w w':=by
 have q:sb<w.heap.size+1:=by omega
 have q:sb<w.heap.size+1+1:=by omega
 have X:=aa I
 clear I
 have W:=aa B
 clear B
 have U:=aa A
 clear A
 have q:=xH lo hi s
 have q:=aa s
 clear s
 go_enter Tryz.func125,Tryz.ntmps125
 go_wp2_with (first|(go_at_call 48;refine(X.out _ kp).mono ?_;rintro e w' ⟨rfl,rfl⟩)|fail)
 (go_at_call 134;refine(W.out _ kp).mono ?_;rintro e w1 ⟨rfl,j⟩;have E:=j.size;simp only[ai]at E;have Z:w.heap.size<w1.heap.size:=(by omega);have ab:w.heap.size+1<w1.heap.size:=(by omega);have J:w.heap.size+2<w1.heap.size:=(by omega);have O:=j.U (a:=⟨w.heap.size,0,none⟩) (v:=.int .u8 lo.tag);have S:=j.U (a:=⟨w.heap.size,1,none⟩) (v:=.int .u32 lo.to);have L:=j.U (a:=⟨w.heap.size+1,0,none⟩) (v:=.int .u8 hi.tag);have N:=j.U (a:=⟨w.heap.size+1,1,none⟩) (v:=.int .u32 hi.to);have t:=j.U (a:=⟨w.heap.size+2,0,none⟩) (v:=.int .u8 0);have z:=j.U (a:=⟨w.heap.size+2,1,none⟩) (v:=.int .u32 0);have T:=fun o:Nat=>(j.av (fun _=>False)).frozen (a:=⟨w.heap.size+2,o,none⟩) (by simp[go_sem]) (fun h=>h) (by simp[go_sem]);have Y:ae w w1:=kp)
 go_wp2_with fail
 (go_at_call 134;refine(U.out _ kp).mono ?_;rintro e w1 ⟨rfl,j⟩;have E:=j.size;have T:=fun o:Nat=>(j.av (fun _=>False)).frozen (a:=⟨w.heap.size+2,o,none⟩) (by dsimp only;omega) (fun h=>h) (T o);have O:=j.cell O;have S:=j.cell S;have L:=j.cell L;have N:=j.cell N;have t:=j.cell t;have z:=j.cell z;have Z:w.heap.size<w1.heap.size:=(by omega);have ab:w.heap.size+1<w1.heap.size:=(by omega);have J:w.heap.size+2<w1.heap.size:=(by omega);have Y:ae w w1:=kp)
 go_wp2_with fail
 all_goals refine aq (v:=.tuple #[.agg #[.int .u8 lo.tag,.int .u32 lo.to],.int .u8 0]) (by simp[results,Tryz.results125,go_sem,J,t,z]) rfl ⟨rfl,kp⟩
theorem DI (sb:Nat)(l n:Int)(s t:Int)(w:World)(aw:n≤16)
  (a0:sb<w.heap.size)
  (L:∀q,ae w q→Calls Tryz.prog 48 #[.pointer (some ⟨sb,0,none⟩)] q fun e w'=>e=.returned (.int .i64 n)∧q=w')
  (am:0≤l) (av:l<n)
  (z:¬(⟨l+1,s⟩:Edge)=⟨t,0⟩)
  (I:∀q,ae w q→Calls Tryz.prog 134 #[.pointer (some ⟨sb,0,none⟩),.int .u8 5,.agg #[.int .u8 (l+1),.int .u32 s],.int .i64 (l+1)] q fun e w'=>e=.returned (.bool true)∧ae q w')
  (E:∀q,ae w q→Calls Tryz.prog 134 #[.pointer (some ⟨sb,0,none⟩),.int .u8 5,.agg #[.int .u8 t,.int .u32 0],.int .i64 (l+1)] q fun e w'=>e=.returned (.bool true)∧ae q w')
  : Calls Tryz.prog 125 #[.pointer (some ⟨sb,0,none⟩),.int .i64 l,.agg #[.int .u8 (l+1),.int .u32 s],.agg #[.int .u8 t,.int .u32 0]] w fun e w'=>e=.returned (.tuple #[.agg #[.int .u8 l,.int .u32 s],.int .u8 0])∧ae w w':=by
 have q:sb<w.heap.size+1:=by omega
 have q:sb<w.heap.size+1+1:=by omega
 have Z:=aa L
 clear L
 have Y:=aa I
 clear I
 have X:=aa E
 clear E
 have q:=oo ⟨l+1,s⟩ ⟨t,0⟩ z
 have q:=aa z
 clear z
 go_enter Tryz.func125,Tryz.ntmps125
 go_wp2_with (first|(go_at_call 48;refine(Z.out _ kp).mono ?_;rintro e w' ⟨rfl,rfl⟩)|fail)
 (go_at_call 134;refine(Y.out _ kp).mono ?_;rintro e w1 ⟨rfl,j⟩;have J:=j.size;simp only[ai]at J;have ad:w.heap.size<w1.heap.size:=(by omega);have al:w.heap.size+1<w1.heap.size:=(by omega);have N:w.heap.size+2<w1.heap.size:=(by omega);have T:=j.U (a:=⟨w.heap.size,0,none⟩) (v:=.int .u8 (l+1));have U:=j.U (a:=⟨w.heap.size,1,none⟩) (v:=.int .u32 s);have O:=j.U (a:=⟨w.heap.size+1,0,none⟩) (v:=.int .u8 t);have S:=j.U (a:=⟨w.heap.size+1,1,none⟩) (v:=.int .u32 0);have A:=j.U (a:=⟨w.heap.size+2,0,none⟩) (v:=.int .u8 0);have B:=j.U (a:=⟨w.heap.size+2,1,none⟩) (v:=.int .u32 0);have W:=fun o:Nat=>(j.av (fun _=>False)).frozen (a:=⟨w.heap.size+2,o,none⟩) (by simp[go_sem]) (fun h=>h) (by simp[go_sem]);have ab:ae w w1:=kp)
 go_wp2_with fail
 (go_at_call 134;refine(X.out _ kp).mono ?_;rintro e w1 ⟨rfl,j⟩;have J:=j.size;have W:=fun o:Nat=>(j.av (fun _=>False)).frozen (a:=⟨w.heap.size+2,o,none⟩) (by dsimp only;omega) (fun h=>h) (W o);have T:=j.cell T;have U:=j.cell U;have O:=j.cell O;have S:=j.cell S;have A:=j.cell A;have B:=j.cell B;have ad:w.heap.size<w1.heap.size:=(by omega);have al:w.heap.size+1<w1.heap.size:=(by omega);have N:w.heap.size+2<w1.heap.size:=(by omega);have ab:ae w w1:=kp)
 go_wp2_with fail
 all_goals refine aq (v:=.tuple #[.agg #[.int .u8 l,.int .u32 s],.int .u8 0]) (by simp[results,Tryz.results125,go_sem,N,A,B]) rfl ⟨rfl,kp⟩
theorem DC {F:Nat→Prop}(R:World→World→Prop)(sb:Nat)(l n a b z:Int)(lo hi:Edge)(w:World)(bf:n≤16)
  (bg:sb<w.heap.size)
  (W:∀j,ae w j→Calls Tryz.prog 48 #[.pointer (some ⟨sb,0,none⟩)] j fun e w'=>e=.returned (.int .i64 n)∧j=w')
  (a8:0≤l) (a':l<n) (A:¬lo=hi) (bb:¬hi.to=0) (bd:0≤lo.tag) (be:lo.tag≤255) (T:∀k,F k→k<w.heap.size)
  (S:∀j,ae w j→Calls Tryz.prog 134 #[.pointer (some ⟨sb,0,none⟩),.int .u8 5,.agg #[.int .u8 lo.tag,.int .u32 lo.to],.int .i64 (l+1)] j fun e w'=>e=.returned (.bool true)∧ae j w')
  (N:∀j,ae w j→Calls Tryz.prog 134 #[.pointer (some ⟨sb,0,none⟩),.int .u8 5,.agg #[.int .u8 hi.tag,.int .u32 hi.to],.int .i64 (l+1)] j fun e w'=>e=.returned (.bool true)∧ae j w')
  (L:∀j,ae w j→Calls Tryz.prog 190 #[.pointer (some ⟨sb,0,none⟩),.agg #[.int .u8 5,.int .u8 l,.int .u8 l,.int .u8 lo.tag,.int .u32 lo.to,.int .u8 hi.tag,.int .u32 hi.to]] j fun e w'=>e=.returned (.tuple #[.agg #[.int .u8 a,.int .u32 b],.int .u8 z])∧af F j w'∧R j w')
  : Calls Tryz.prog 125 #[.pointer (some ⟨sb,0,none⟩),.int .i64 l,.agg #[.int .u8 lo.tag,.int .u32 lo.to],.agg #[.int .u8 hi.tag,.int .u32 hi.to]] w fun e w'=>e=.returned (.tuple #[.agg #[.int .u8 a,.int .u32 b],.int .u8 z]) ∧
   ∃j t,ae w j∧af F j t∧R j t∧af (fun k=>w.heap.size≤k∧k<j.heap.size) t w':=by
 have j:sb<w.heap.size+1:=by omega
 have j:sb<w.heap.size+1+1:=by omega
 have B:¬F (w.heap.size+2):=fun h=>by have:=T _ h;omega
 have a0:=aa W
 clear W
 have aw:=aa S
 have av:=aa N
 have am:=aa L
 have j:=oo lo hi A
 have j:=aa A
 clear A L N S T
 go_enter Tryz.func125,Tryz.ntmps125
 go_wp2_with (first|(go_at_call 48;refine(a0.out _ kp).mono ?_;rintro e w' ⟨rfl,rfl⟩)|fail)
 (go_at_call 134;refine(aw.out _ kp).mono ?_;rintro e w1 ⟨rfl,q⟩;have U:=q.size;simp only[ai]at U;have a4:w.heap.size<w1.heap.size:=(by omega);have a5:w.heap.size+1<w1.heap.size:=(by omega);have X:w.heap.size+2<w1.heap.size:=(by omega);have ad:=q.U (a:=⟨w.heap.size,0,none⟩) (v:=.int .u8 lo.tag);have al:=q.U (a:=⟨w.heap.size,1,none⟩) (v:=.int .u32 lo.to);have Z:=q.U (a:=⟨w.heap.size+1,0,none⟩) (v:=.int .u8 hi.tag);have ab:=q.U (a:=⟨w.heap.size+1,1,none⟩) (v:=.int .u32 hi.to);have E:=q.U (a:=⟨w.heap.size+2,0,none⟩) (v:=.int .u8 0);have I:=q.U (a:=⟨w.heap.size+2,1,none⟩) (v:=.int .u32 0);have J:=fun o:Nat=>(q.av (fun _=>False)).frozen (a:=⟨w.heap.size+2,o,none⟩) (by simp[go_sem]) (fun h=>h) (by simp[go_sem]);have O:ae w w1:=kp)
 go_wp2_with fail
 (go_at_call 134;refine(av.out _ kp).mono ?_;rintro e w1 ⟨rfl,q⟩;have U:=q.size;have J:=fun o:Nat=>(q.av (fun _=>False)).frozen (a:=⟨w.heap.size+2,o,none⟩) (by dsimp only;omega) (fun h=>h) (J o);have ad:=q.cell ad;have al:=q.cell al;have Z:=q.cell Z;have ab:=q.cell ab;have E:=q.cell E;have I:=q.cell I;have a4:w.heap.size<w1.heap.size:=(by omega);have a5:w.heap.size+1<w1.heap.size:=(by omega);have X:w.heap.size+2<w1.heap.size:=(by omega);have O:ae w w1:=kp)
 go_wp2_with (first|(go_at_call 190;refine(am.out _ kp).mono ?_;rintro e Y ⟨rfl,s,a1⟩;have j:=s.size;have a3:w.heap.size+2<Y.heap.size:=(by omega);have a6:=s.cell (a:=⟨w.heap.size+2,0,none⟩) B E;have a7:=s.cell (a:=⟨w.heap.size+2,1,none⟩) B I;have j:=fun o:Nat=>s.frozen (a:=⟨w.heap.size+2,o,none⟩) X B (J o))|fail)
 refine aq (v:=.tuple #[.agg #[.int .u8 a,.int .u32 b],.int .u8 z]) (by simp[results,Tryz.results125,go_sem,a3,a6,a7]) rfl ⟨rfl,w1,Y,O,s,a1,?_⟩
 (repeat (first|with_reducible exact af.refl _ _|refine af.setCell ?_ (Or.inl (by dsimp only;omega)) _|with_reducible refine af.drewN ?_ _|with_reducible refine af.drew ?_|with_reducible refine af.alloc ?_ _))
theorem DD {F:Nat→Prop}(R:World→World→Prop)(sb:Nat)(l n a b A:Int)(lo:Edge)(s:Int)(w:World)(bg:n≤16)
  (bi:sb<w.heap.size)
  (X:∀j,ae w j→Calls Tryz.prog 48 #[.pointer (some ⟨sb,0,none⟩)] j fun e w'=>e=.returned (.int .i64 n)∧j=w')
  (a':0≤l) (bb:l<n) (B:¬lo=(⟨s,0⟩:Edge)) (bd:¬lo.tag=l+1) (be:0≤lo.tag) (bf:lo.tag≤255) (U:∀k,F k→k<w.heap.size)
  (T:∀j,ae w j→Calls Tryz.prog 134 #[.pointer (some ⟨sb,0,none⟩),.int .u8 5,.agg #[.int .u8 lo.tag,.int .u32 lo.to],.int .i64 (l+1)] j fun e w'=>e=.returned (.bool true)∧ae j w')
  (O:∀j,ae w j→Calls Tryz.prog 134 #[.pointer (some ⟨sb,0,none⟩),.int .u8 5,.agg #[.int .u8 s,.int .u32 0],.int .i64 (l+1)] j fun e w'=>e=.returned (.bool true)∧ae j w')
  (N:∀j,ae w j→Calls Tryz.prog 190 #[.pointer (some ⟨sb,0,none⟩),.agg #[.int .u8 5,.int .u8 l,.int .u8 l,.int .u8 lo.tag,.int .u32 lo.to,.int .u8 s,.int .u32 0]] j fun e w'=>e=.returned (.tuple #[.agg #[.int .u8 a,.int .u32 b],.int .u8 A])∧af F j w'∧R j w')
  : Calls Tryz.prog 125 #[.pointer (some ⟨sb,0,none⟩),.int .i64 l,.agg #[.int .u8 lo.tag,.int .u32 lo.to],.agg #[.int .u8 s,.int .u32 0]] w fun e w'=>e=.returned (.tuple #[.agg #[.int .u8 a,.int .u32 b],.int .u8 A]) ∧
   ∃j z,ae w j∧af F j z∧R j z∧af (fun k=>w.heap.size≤k∧k<j.heap.size) z w':=by
 have j:sb<w.heap.size+1:=by omega
 have j:sb<w.heap.size+1+1:=by omega
 have E:¬F (w.heap.size+2):=fun h=>by have:=U _ h;omega
 have a1:=aa X
 clear X
 have a0:=aa T
 have aw:=aa O
 have av:=aa N
 have j:=oo lo ⟨s,0⟩ B
 have j:=aa B
 clear B N O T U
 go_enter Tryz.func125,Tryz.ntmps125
 go_wp2_with (first|(go_at_call 48;refine(a1.out _ kp).mono ?_;rintro e w' ⟨rfl,rfl⟩)|fail)
 (go_at_call 134;refine(a0.out _ kp).mono ?_;rintro e w1 ⟨rfl,q⟩;have W:=q.size;simp only[ai]at W;have a5:w.heap.size<w1.heap.size:=(by omega);have a6:w.heap.size+1<w1.heap.size:=(by omega);have Y:w.heap.size+2<w1.heap.size:=(by omega);have al:=q.U (a:=⟨w.heap.size,0,none⟩) (v:=.int .u8 lo.tag);have am:=q.U (a:=⟨w.heap.size,1,none⟩) (v:=.int .u32 lo.to);have ab:=q.U (a:=⟨w.heap.size+1,0,none⟩) (v:=.int .u8 s);have ad:=q.U (a:=⟨w.heap.size+1,1,none⟩) (v:=.int .u32 0);have I:=q.U (a:=⟨w.heap.size+2,0,none⟩) (v:=.int .u8 0);have J:=q.U (a:=⟨w.heap.size+2,1,none⟩) (v:=.int .u32 0);have L:=fun o:Nat=>(q.av (fun _=>False)).frozen (a:=⟨w.heap.size+2,o,none⟩) (by simp[go_sem]) (fun h=>h) (by simp[go_sem]);have S:ae w w1:=kp)
 go_wp2_with fail
 (go_at_call 134;refine(aw.out _ kp).mono ?_;rintro e w1 ⟨rfl,q⟩;have W:=q.size;have L:=fun o:Nat=>(q.av (fun _=>False)).frozen (a:=⟨w.heap.size+2,o,none⟩) (by dsimp only;omega) (fun h=>h) (L o);have al:=q.cell al;have am:=q.cell am;have ab:=q.cell ab;have ad:=q.cell ad;have I:=q.cell I;have J:=q.cell J;have a5:w.heap.size<w1.heap.size:=(by omega);have a6:w.heap.size+1<w1.heap.size:=(by omega);have Y:w.heap.size+2<w1.heap.size:=(by omega);have S:ae w w1:=kp)
 go_wp2_with (first|(go_at_call 190;refine(av.out _ kp).mono ?_;rintro e Z ⟨rfl,t,a3⟩;have j:=t.size;have a4:w.heap.size+2<Z.heap.size:=(by omega);have a7:=t.cell (a:=⟨w.heap.size+2,0,none⟩) E I;have a8:=t.cell (a:=⟨w.heap.size+2,1,none⟩) E J;have j:=fun o:Nat=>t.frozen (a:=⟨w.heap.size+2,o,none⟩) Y E (L o))|fail)
 refine aq (v:=.tuple #[.agg #[.int .u8 a,.int .u32 b],.int .u8 A]) (by simp[results,Tryz.results125,go_sem,a4,a7,a8]) rfl ⟨rfl,w1,Z,S,t,a3,?_⟩
 (repeat (first|with_reducible exact af.refl _ _|refine af.setCell ?_ (Or.inl (by dsimp only;omega)) _|with_reducible refine af.drewN ?_ _|with_reducible refine af.drew ?_|with_reducible refine af.alloc ?_ _))
theorem ak.bf {F:Nat→Prop}{w w':World}{sb:Nat}{M:St}(h:ak F w sb M)(q:ae w w'):af F w w'∧ak (aC F w w') w' sb M:=
 ⟨q.av F,(h.ad q).mono (fun _ h=>.inl h) (fun k s=>by rcases s with j|j;exact(h.ad q).lt k j;exact j.2)⟩
def bz (M:St)(tag:Int)(r:Rec):Edge:=if M.a' r=0 then⟨tag,M.bd r⟩else⟨0,0⟩
theorem ak.pos {F:Nat→Prop}{w:World}{sb:Nat}{M:St}(h:ak F w sb M):sb<w.heap.size:=h.lt _ h.own
theorem aV.pos {F:Nat→Prop}{w:World}{mb:Nat}{M:St}{j:List (Int×Rec)}(h:aV F w mb M j):mb<w.heap.size:=h.lt _ h.own
theorem aV.vars {F:Nat→Prop}{w:World}{mb:Nat}{M:St}{j:List (Int×Rec)}(h:aV F w mb M j):w.cell? ⟨mb,3,none⟩=some (.int .i64 M.n):=by
 obtain⟨⟨lv,q,j,-⟩,-⟩:=h;rw[cell_of_row w mb 3 _ _ _ j];rfl
theorem Du {F:Nat→Prop}{w:World}{sb:Nat}{M:St}(h:ak F w sb M)(r:Rec)(L:r.ok) :
  Calls Tryz.prog 190 #[.pointer (some ⟨sb,0,none⟩),.agg #[.int .u8 r.al,.int .u8 r.I,.int .u8 r.J,.int .u8 r.lo.tag,.int .u32 r.lo.to,.int .u8 r.hi.tag,.int .u32 r.hi.to]] w fun e w'=>e=.returned (.tuple #[.agg #[.int .u8 (bz M r.I r).tag,.int .u32 (bz M r.I r).to],.int .u8 (M.a' r)])∧af F w w'∧ak (aC F w w') w' sb (M.a7 r):=by
 have I:=fun(j:World) (J:ae w j)=>kJ (h.ad J) r L
 by_cases s:M.a' r=0
 ·have t:bz M r.I r=⟨r.I,M.bd r⟩:=ah s;rw[t,s];rw[s]at I;refine(DA sb r (M.bd r) w h.pos h.lt (fun j q=>ak (aC F j q) q sb (M.a7 r)) I).mono ?_;rintro e w' ⟨rfl,j,q,z,A,B,E⟩;exact⟨rfl,B.after h.lt z A E⟩
 ·have t:bz M r.I r=⟨0,0⟩:=ag s;rw[t];refine(Dz sb r (M.bd r) (M.a' r) s w h.pos h.lt (fun j q=>ak (aC F j q) q sb (M.a7 r)) I).mono ?_;rintro e w' ⟨rfl,j,q,z,A,B,E⟩;exact⟨rfl,B.after h.lt z A E⟩
def bO (M:St)(l:Int)(lo hi:Edge):(Edge×Int) ⊕ Rec:=
 if l<0∨M.n≤l then .inl (⟨0,0⟩,3)
 else if M.leads 5 lo (l+1)=false∨M.leads 5 hi (l+1)=false then .inl (⟨0,0⟩,1)
 else if lo=hi then .inl (lo,0)
 else if hi.to=0∧lo.tag=l+1 then .inl (⟨l,lo.to⟩,0)
 else .inr ⟨5,l,l,lo,hi⟩
def jU (M:St):(Edge×Int) ⊕ Rec→Edge | .inl x=>x.1 | .inr r=>bz M r.I r
def cV (M:St):(Edge×Int) ⊕ Rec→Int | .inl x=>x.2 | .inr r=>M.a' r
def aX (M:St):(Edge×Int) ⊕ Rec→St | .inl _=>M | .inr r=>M.a7 r
theorem cr (b:Bool):b=false∨b=true:=by cases b<;>simp
theorem Dv {F:Nat→Prop}{w:World}{sb:Nat}{M:St}(h:ak F w sb M)(l:Int)(lo hi:Edge)(S:lo.ok)(a0:hi.ok) :
  Calls Tryz.prog 125 #[.pointer (some ⟨sb,0,none⟩),.int .i64 l,.agg #[.int .u8 lo.tag,.int .u32 lo.to],.agg #[.int .u8 hi.tag,.int .u32 hi.to]] w fun e w'=>
   e=.returned (.tuple #[.agg #[.int .u8 (jU M (bO M l lo hi)).tag,.int .u32 (jU M (bO M l lo hi)).to],.int .u8 (cV M (bO M l lo hi))])∧af F w w'∧ak (aC F w w') w' sb (aX M (bO M l lo hi)):=by
 have A:=h.wf.bw
 have B:=fun(q:World) (L:ae w q)=>dw (h.ad L)
 have t:=fun(q:World) (L:ae w q)=>dF (h.ad L) 5 lo (l+1) S
 have N:=fun(q:World) (L:ae w q)=>dF (h.ad L) 5 hi (l+1) a0
 by_cases T:l<0∨M.n≤l
 ·have e:bO M l lo hi=.inl (⟨0,0⟩,3):=ah T;rw[e];by_cases a1:l<0;·exact(DG sb l M.n lo hi w A h.pos B a1).mono fun e w' j=>⟨j.1,h.bf j.2⟩
  ·exact(DB sb l M.n lo hi w A h.pos B (by omega) (by omega)).mono fun e w' j=>⟨j.1,h.bf j.2⟩
 ·have z:0≤l:=by omega
  have O:l<M.n:=by omega
  by_cases s:M.leads 5 lo (l+1)=false∨M.leads 5 hi (l+1)=false
  ·have e:bO M l lo hi=.inl (⟨0,0⟩,1):=(by unfold bO;rw[ag T,ah s]);rw[e];rcases cr (M.leads 5 lo (l+1))with I|I
   ·rw[I]at t;exact(DF sb l M.n lo hi w A h.pos B z O t).mono fun e w' j=>⟨j.1,h.bf j.2⟩
   ·rcases s with s|X;·rw[s]at I;cases I
    ·rw[I]at t;rw[X]at N;exact(DE sb l M.n lo hi w A h.pos B z O t N).mono fun e w' j=>⟨j.1,h.bf j.2⟩
  ·have I:M.leads 5 lo (l+1)=true:=(by rcases cr (M.leads 5 lo (l+1))with b|b;exact(s (.inl b)).elim;exact b);have X:M.leads 5 hi (l+1)=true:=(by rcases cr (M.leads 5 hi (l+1))with b|b;exact(s (.inr b)).elim;exact b);rw[I]at t;rw[X]at N;by_cases J:lo=hi
   ·have e:bO M l lo hi=.inl (lo,0):=(by unfold bO;rw[ag T,ag s,ah J]);rw[e];exact(DH sb l M.n lo hi w A h.pos B z O J t N).mono fun e w' j=>⟨j.1,h.bf j.2⟩
   ·by_cases U:hi.to=0∧lo.tag=l+1
    ·have e:bO M l lo hi=.inl (⟨l,lo.to⟩,0):=(by unfold bO;rw[ag T,ag s,ag J,ah U]);rw[e];obtain⟨lt,a5⟩:=lo;obtain⟨W,a3⟩:=hi;obtain⟨am,av⟩:=U;dsimp only at am av;subst am;subst av;exact(DI sb l M.n a5 W w A h.pos B z O J t N).mono fun e w' j=>⟨j.1,h.bf j.2⟩
    ·have e:bO M l lo hi=.inr ⟨5,l,l,lo,hi⟩:=(by unfold bO;rw[ag T,ag s,ag J,ag U]);rw[e];have j:(⟨5,l,l,lo,hi⟩:Rec).ok:=⟨⟨by show(0:Int)≤5;decide,by show(5:Int)≤255;decide⟩,⟨z,by show l≤255;omega⟩,⟨z,by show l≤255;omega⟩,S,a0⟩;have aw:=fun(q:World) (L:ae w q)=>Du (h.ad L) ⟨5,l,l,lo,hi⟩ j;by_cases Y:hi.to=0
     ·obtain⟨W,a3⟩:=hi;dsimp only at Y;subst Y;refine(DD (fun q E=>ak (aC F q E) E sb (M.a7 ⟨5,l,l,lo,⟨W,0⟩⟩)) sb l M.n _ _ _ lo W w A h.pos B z O J (fun a4=>U ⟨rfl,a4⟩) S.1.1 S.1.2 h.lt t N aw).mono ?_;rintro e w' ⟨rfl,q,E,Z,ab,ad,al⟩;exact⟨rfl,ad.after h.lt Z ab al⟩
     ·refine(DC (fun q E=>ak (aC F q E) E sb (M.a7 ⟨5,l,l,lo,hi⟩)) sb l M.n _ _ _ lo hi w A h.pos B z O J Y S.1.1 S.1.2 h.lt t N aw).mono ?_;rintro e w' ⟨rfl,q,E,Z,ab,ad,al⟩;exact⟨rfl,ad.after h.lt Z ab al⟩
theorem vJ {F:Nat→Prop}(sb:Nat)(r:Rec)(id:Int)(w:World)(S:sb<w.heap.size)(A:∀k,F k→k<w.heap.size)(R:World→World→Prop)
  (z:∀j,ae w j→Calls Tryz.prog 80 #[.pointer (some ⟨sb,0,none⟩),.agg #[.int .u8 r.al,.int .u8 r.I,.int .u8 r.J,.int .u8 r.lo.tag,.int .u32 r.lo.to,.int .u8 r.hi.tag,.int .u32 r.hi.to]] j fun e w'=>e=.returned (.tuple #[.int .u32 id,.int .u8 0])∧af F j w'∧R j w') :
  Calls Tryz.prog 186 #[.pointer (some ⟨sb,0,none⟩),.agg #[.int .u8 r.al,.int .u8 r.I,.int .u8 r.J,.int .u8 r.lo.tag,.int .u32 r.lo.to,.int .u8 r.hi.tag,.int .u32 r.hi.to]] w fun e w'=>e=.returned (.tuple #[.agg #[.int .u8 0,.int .u32 id],.int .u8 0]) ∧
   ∃j s,ae w j∧af F j s∧R j s∧af (fun k=>w.heap.size≤k∧k<j.heap.size) s w':=by
 have B:=aa z
 have j:=aa A
 clear z A
 have L:¬F w.heap.size:=fun h=>by have:=j.out _ h;omega
 have t:¬F (w.heap.size+1):=fun h=>by have:=j.out _ h;omega
 go_enter Tryz.func186,Tryz.ntmps186
 go_wp2_with (go_at_call 80;refine(B.out _ kp).mono ?_;rintro e w1 ⟨rfl,q,E⟩;have I:=q.size;simp only[ai]at I;have j:=q.cell (a:=⟨w.heap.size,1,none⟩) L (v:=.int .u8 r.I) (by simp);have N:=q.cell (a:=⟨w.heap.size+1,0,none⟩) t (v:=.int .u8 0) (by simp);have O:=q.cell (a:=⟨w.heap.size+1,1,none⟩) t (v:=.int .u32 0) (by simp);have j:=fun o:Nat=>q.frozen (a:=⟨w.heap.size+1,o,none⟩) (by simp) t (by simp);have J:w.heap.size+1<w1.heap.size:=(by omega);have j:w.heap.size<w1.heap.size:=(by omega))
 refine aq (v:=.tuple #[.agg #[.int .u8 0,.int .u32 id],.int .u8 0]) (by simp[results,Tryz.results186,go_sem,J,N,O]) rfl ⟨rfl,_,w1,?_,q,E,?_⟩
 ·(exact kp)
 ·(have j:(w.alloc (.cells #[.int .u8 r.al,.int .u8 r.I,.int .u8 r.J,.int .u8 r.lo.tag,.int .u32 r.lo.to,.int .u8 r.hi.tag,.int .u32 r.hi.to] 134)).heap.size=w.heap.size+1:=by simp);(try simp only[ai]);(repeat (first|with_reducible exact af.refl _ _|refine af.setCell ?_ (Or.inl (by dsimp only;omega)) _|with_reducible refine af.drewN ?_ _|with_reducible refine af.drew ?_|with_reducible refine af.alloc ?_ _))
theorem vI {F:Nat→Prop}(sb:Nat)(r:Rec)(id s:Int)(T:s≠0)(w:World)(U:sb<w.heap.size)(B:∀k,F k→k<w.heap.size)(R:World→World→Prop)
  (A:∀j,ae w j→Calls Tryz.prog 80 #[.pointer (some ⟨sb,0,none⟩),.agg #[.int .u8 r.al,.int .u8 r.I,.int .u8 r.J,.int .u8 r.lo.tag,.int .u32 r.lo.to,.int .u8 r.hi.tag,.int .u32 r.hi.to]] j fun e w'=>e=.returned (.tuple #[.int .u32 id,.int .u8 s])∧af F j w'∧R j w') :
  Calls Tryz.prog 186 #[.pointer (some ⟨sb,0,none⟩),.agg #[.int .u8 r.al,.int .u8 r.I,.int .u8 r.J,.int .u8 r.lo.tag,.int .u32 r.lo.to,.int .u8 r.hi.tag,.int .u32 r.hi.to]] w fun e w'=>e=.returned (.tuple #[.agg #[.int .u8 0,.int .u32 0],.int .u8 s]) ∧
   ∃j t,ae w j∧af F j t∧R j t∧af (fun k=>w.heap.size≤k∧k<j.heap.size) t w':=by
 have E:=aa A
 have j:=aa B
 clear A B
 have N:¬F w.heap.size:=fun h=>by have:=j.out _ h;omega
 have z:¬F (w.heap.size+1):=fun h=>by have:=j.out _ h;omega
 go_enter Tryz.func186,Tryz.ntmps186
 go_wp2_with (go_at_call 80;refine(E.out _ kp).mono ?_;rintro e w1 ⟨rfl,q,I⟩;have J:=q.size;simp only[ai]at J;have j:=q.cell (a:=⟨w.heap.size,1,none⟩) N (v:=.int .u8 r.I) (by simp);have O:=q.cell (a:=⟨w.heap.size+1,0,none⟩) z (v:=.int .u8 0) (by simp);have S:=q.cell (a:=⟨w.heap.size+1,1,none⟩) z (v:=.int .u32 0) (by simp);have j:=fun o:Nat=>q.frozen (a:=⟨w.heap.size+1,o,none⟩) (by simp) z (by simp);have L:w.heap.size+1<w1.heap.size:=(by omega);have j:w.heap.size<w1.heap.size:=(by omega))
 refine aq (v:=.tuple #[.agg #[.int .u8 0,.int .u32 0],.int .u8 s]) (by simp[results,Tryz.results186,go_sem,L,O,S]) rfl ⟨rfl,_,w1,?_,q,I,?_⟩
 ·(exact kp)
 ·(have j:(w.alloc (.cells #[.int .u8 r.al,.int .u8 r.I,.int .u8 r.J,.int .u8 r.lo.tag,.int .u32 r.lo.to,.int .u8 r.hi.tag,.int .u32 r.hi.to] 134)).heap.size=w.heap.size+1:=by simp);(try simp only[ai]);(repeat (first|with_reducible exact af.refl _ _|refine af.setCell ?_ (Or.inl (by dsimp only;omega)) _|with_reducible refine af.drewN ?_ _|with_reducible refine af.drew ?_|with_reducible refine af.alloc ?_ _))
theorem En {F:Nat→Prop}(sb:Nat)(r:Rec)(id:Int)(w:World)(S:sb<w.heap.size)(A:∀k,F k→k<w.heap.size)(R:World→World→Prop)
  (z:∀j,ae w j→Calls Tryz.prog 80 #[.pointer (some ⟨sb,0,none⟩),.agg #[.int .u8 r.al,.int .u8 r.I,.int .u8 r.J,.int .u8 r.lo.tag,.int .u32 r.lo.to,.int .u8 r.hi.tag,.int .u32 r.hi.to]] j fun e w'=>e=.returned (.tuple #[.int .u32 id,.int .u8 0])∧af F j w'∧R j w') :
  Calls Tryz.prog 187 #[.pointer (some ⟨sb,0,none⟩),.agg #[.int .u8 r.al,.int .u8 r.I,.int .u8 r.J,.int .u8 r.lo.tag,.int .u32 r.lo.to,.int .u8 r.hi.tag,.int .u32 r.hi.to]] w fun e w'=>e=.returned (.tuple #[.agg #[.int .u8 0,.int .u32 id],.int .u8 0]) ∧
   ∃j s,ae w j∧af F j s∧R j s∧af (fun k=>w.heap.size≤k∧k<j.heap.size) s w':=by
 have B:=aa z
 have j:=aa A
 clear z A
 have L:¬F w.heap.size:=fun h=>by have:=j.out _ h;omega
 have t:¬F (w.heap.size+1):=fun h=>by have:=j.out _ h;omega
 go_enter Tryz.func187,Tryz.ntmps187
 go_wp2_with (go_at_call 80;refine(B.out _ kp).mono ?_;rintro e w1 ⟨rfl,q,E⟩;have I:=q.size;simp only[ai]at I;have j:=q.cell (a:=⟨w.heap.size,1,none⟩) L (v:=.int .u8 r.I) (by simp);have N:=q.cell (a:=⟨w.heap.size+1,0,none⟩) t (v:=.int .u8 0) (by simp);have O:=q.cell (a:=⟨w.heap.size+1,1,none⟩) t (v:=.int .u32 0) (by simp);have j:=fun o:Nat=>q.frozen (a:=⟨w.heap.size+1,o,none⟩) (by simp) t (by simp);have J:w.heap.size+1<w1.heap.size:=(by omega);have j:w.heap.size<w1.heap.size:=(by omega))
 refine aq (v:=.tuple #[.agg #[.int .u8 0,.int .u32 id],.int .u8 0]) (by simp[results,Tryz.results187,go_sem,J,N,O]) rfl ⟨rfl,_,w1,?_,q,E,?_⟩
 ·(exact kp)
 ·(have j:(w.alloc (.cells #[.int .u8 r.al,.int .u8 r.I,.int .u8 r.J,.int .u8 r.lo.tag,.int .u32 r.lo.to,.int .u8 r.hi.tag,.int .u32 r.hi.to] 134)).heap.size=w.heap.size+1:=by simp);(try simp only[ai]);(repeat (first|with_reducible exact af.refl _ _|refine af.setCell ?_ (Or.inl (by dsimp only;omega)) _|with_reducible refine af.drewN ?_ _|with_reducible refine af.drew ?_|with_reducible refine af.alloc ?_ _))
theorem Em {F:Nat→Prop}(sb:Nat)(r:Rec)(id s:Int)(T:s≠0)(w:World)(U:sb<w.heap.size)(B:∀k,F k→k<w.heap.size)(R:World→World→Prop)
  (A:∀j,ae w j→Calls Tryz.prog 80 #[.pointer (some ⟨sb,0,none⟩),.agg #[.int .u8 r.al,.int .u8 r.I,.int .u8 r.J,.int .u8 r.lo.tag,.int .u32 r.lo.to,.int .u8 r.hi.tag,.int .u32 r.hi.to]] j fun e w'=>e=.returned (.tuple #[.int .u32 id,.int .u8 s])∧af F j w'∧R j w') :
  Calls Tryz.prog 187 #[.pointer (some ⟨sb,0,none⟩),.agg #[.int .u8 r.al,.int .u8 r.I,.int .u8 r.J,.int .u8 r.lo.tag,.int .u32 r.lo.to,.int .u8 r.hi.tag,.int .u32 r.hi.to]] w fun e w'=>e=.returned (.tuple #[.agg #[.int .u8 0,.int .u32 0],.int .u8 s]) ∧
   ∃j t,ae w j∧af F j t∧R j t∧af (fun k=>w.heap.size≤k∧k<j.heap.size) t w':=by
 have E:=aa A
 have j:=aa B
 clear A B
 have N:¬F w.heap.size:=fun h=>by have:=j.out _ h;omega
 have z:¬F (w.heap.size+1):=fun h=>by have:=j.out _ h;omega
 go_enter Tryz.func187,Tryz.ntmps187
 go_wp2_with (go_at_call 80;refine(E.out _ kp).mono ?_;rintro e w1 ⟨rfl,q,I⟩;have J:=q.size;simp only[ai]at J;have j:=q.cell (a:=⟨w.heap.size,1,none⟩) N (v:=.int .u8 r.I) (by simp);have O:=q.cell (a:=⟨w.heap.size+1,0,none⟩) z (v:=.int .u8 0) (by simp);have S:=q.cell (a:=⟨w.heap.size+1,1,none⟩) z (v:=.int .u32 0) (by simp);have j:=fun o:Nat=>q.frozen (a:=⟨w.heap.size+1,o,none⟩) (by simp) z (by simp);have L:w.heap.size+1<w1.heap.size:=(by omega);have j:w.heap.size<w1.heap.size:=(by omega))
 refine aq (v:=.tuple #[.agg #[.int .u8 0,.int .u32 0],.int .u8 s]) (by simp[results,Tryz.results187,go_sem,L,O,S]) rfl ⟨rfl,_,w1,?_,q,I,?_⟩
 ·(exact kp)
 ·(have j:(w.alloc (.cells #[.int .u8 r.al,.int .u8 r.I,.int .u8 r.J,.int .u8 r.lo.tag,.int .u32 r.lo.to,.int .u8 r.hi.tag,.int .u32 r.hi.to] 134)).heap.size=w.heap.size+1:=by simp);(try simp only[ai]);(repeat (first|with_reducible exact af.refl _ _|refine af.setCell ?_ (Or.inl (by dsimp only;omega)) _|with_reducible refine af.drewN ?_ _|with_reducible refine af.drew ?_|with_reducible refine af.alloc ?_ _))
end Go.Proofs.YtafkamlhimkbmaaGreat
