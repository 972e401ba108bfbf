/-
  The six 'found' (printed by wip/mk_found.py).
-/
import Derived.Test.YtafkamlhimkbmaaGreatPSFindA
namespace Go.Proofs.YtafkamlhimkbmaaGreat
set_option maxRecDepth 1000000
set_option maxHeartbeats 8000000
set_option linter.unusedSimpArgs false
set_option linter.unusedVariables false
open Go.RowKit

theorem ag.mono {F G:Nat→Prop}{w:World}{q:Nat}{M:St}(h:ag F w q M)(j:∀k,F k→G k)(U:∀k,G k→k<w.heap.size):ag G w q M:=by
 obtain⟨⟨E,ib,ts,s,t,I,J,K,L,N,O,S,T⟩,z,q,A⟩:=h;exact⟨⟨E,ib,ts,s,t,I,J,K,L,N,fun k q=>j k (O k q),fun k q=>j k (S k q),T⟩,j _ z,U,A⟩

theorem sD {F:Nat→Prop}{w q A w':World}(E:∀k,F k→k<w.heap.size)(s:aa w q)(t:ae F q A)(z:ae (fun k=>w.heap.size≤k∧k<q.heap.size) A w') :
  ae F w w'∧(∀k,au F q A k→au F w w' k)∧(∀k,au F w w' k→k<w'.heap.size)∧∀k,au F q A k→¬(w.heap.size≤k∧k<q.heap.size):=by
 have q:=s.size
 have q:=t.size
 have q:=z.size
 refine⟨⟨z.os.trans (t.os.trans s.os),z.tape.trans (t.tape.trans s.tape),z.output.trans (t.output.trans s.output),by omega,fun k j q=>?_⟩,?_,?_,?_⟩
 ·rw[z.block k (by omega) (by omega),t.block k (by omega) q,s.block k j]
 ·intro k j;rcases j with j|j;·exact .inl j
  ·exact .inr ⟨by omega,by omega⟩
 ·intro k j;rcases j with j|j;·have:=E k j;omega
  ·exact j.2
 ·intro k j q;rcases j with j|j;·have:=E k j;omega
  ·omega

theorem ag.after {F:Nat→Prop}{w j q w':World}{t:Nat}{M:St}(I:∀k,F k→k<w.heap.size)(z:aa w j)(A:ae F j q)(E:ag (au F j q) q t M)(s:ae (fun k=>w.heap.size≤k∧k<j.heap.size) q w') :
  ae F w w'∧ag (au F w w') w' t M:=by
 obtain⟨a,b,c,d⟩:=sD I z A s
 exact⟨a,(E.a5 s d).mono b c⟩

theorem BA {F:Nat→Prop}(z:Nat)(r:Rec)(id:Int)(w:World)(T:z<w.heap.size)(E:∀k,F k→k<w.heap.size)(R:World→World→Prop)
  (A:∀j,aa w j→Calls Tryz.prog 80 #[.pointer (some ⟨z,0,none⟩),.agg #[.int .u8 r.ad,.int .u8 r.I,.int .u8 r.J,.int .u8 r.lo.tag,.int .u32 r.lo.to,.int .u8 r.hi.tag,.int .u32 r.hi.to]] j fun e w'=>e=.returned (.tuple #[.int .u32 id,.int .u8 0])∧ae F j w'∧R j w') :
  Calls Tryz.prog 190 #[.pointer (some ⟨z,0,none⟩),.agg #[.int .u8 r.ad,.int .u8 r.I,.int .u8 r.J,.int .u8 r.lo.tag,.int .u32 r.lo.to,.int .u8 r.hi.tag,.int .u32 r.hi.to]] w fun e w'=>e=.returned (.tuple #[.agg #[.int .u8 r.I,.int .u32 id],.int .u8 0]) ∧
   ∃j s,aa w j∧ae F j s∧R j s∧ae (fun k=>w.heap.size≤k∧k<j.heap.size) s w':=by
 have I:=Lib.hid A
 have j:=Lib.hid E
 clear A E
 have N:¬F w.heap.size:=fun h=>by have:=j.out _ h;omega
 have t:¬F (w.heap.size+1):=fun h=>by have:=j.out _ h;omega
 go_enter Tryz.func190,Tryz.ntmps190
 go_wp2_with (go_at_call 80;refine(I.out _ (by(exact kp))).mono ?_;rintro e w1 ⟨rfl,q,J⟩;have K:=q.size;simp only[World.size_alloc]at K;have j:=q.cell (a:=⟨w.heap.size,1,none⟩) N (v:=.int .u8 r.I) (by simp);have O:=q.cell (a:=⟨w.heap.size+1,0,none⟩) t (v:=.int .u8 0) (by simp);have S:=q.cell (a:=⟨w.heap.size+1,1,none⟩) t (v:=.int .u32 0) (by simp);have j:=fun o:Nat=>q.frozen (a:=⟨w.heap.size+1,o,none⟩) (by simp) t (by simp);have L:w.heap.size+1<w1.heap.size:=(by omega);have j:w.heap.size<w1.heap.size:=(by omega))
 refine bodyPost_ret (v:=.tuple #[.agg #[.int .u8 r.I,.int .u32 id],.int .u8 0]) (by simp[results,Tryz.results190,go_sem,L,O,S]) rfl ⟨rfl,_,w1,?_,q,J,?_⟩
 ·(exact kp)
 ·(have j:(w.alloc (.cells #[.int .u8 r.ad,.int .u8 r.I,.int .u8 r.J,.int .u8 r.lo.tag,.int .u32 r.lo.to,.int .u8 r.hi.tag,.int .u32 r.hi.to] 134)).heap.size=w.heap.size+1:=by simp);(try simp only[World.size_alloc]);(repeat (first|with_reducible exact ae.refl _ _|refine ae.setCell ?_ (Or.inl (by dsimp only;omega)) _|with_reducible refine ae.drewN ?_ _|with_reducible refine ae.drew ?_|with_reducible refine ae.alloc ?_ _))

theorem Bz {F:Nat→Prop}(A:Nat)(r:Rec)(id s:Int)(U:s≠0)(w:World)(W:A<w.heap.size)(I:∀k,F k→k<w.heap.size)(R:World→World→Prop)
  (E:∀j,aa w j→Calls Tryz.prog 80 #[.pointer (some ⟨A,0,none⟩),.agg #[.int .u8 r.ad,.int .u8 r.I,.int .u8 r.J,.int .u8 r.lo.tag,.int .u32 r.lo.to,.int .u8 r.hi.tag,.int .u32 r.hi.to]] j fun e w'=>e=.returned (.tuple #[.int .u32 id,.int .u8 s])∧ae F j w'∧R j w') :
  Calls Tryz.prog 190 #[.pointer (some ⟨A,0,none⟩),.agg #[.int .u8 r.ad,.int .u8 r.I,.int .u8 r.J,.int .u8 r.lo.tag,.int .u32 r.lo.to,.int .u8 r.hi.tag,.int .u32 r.hi.to]] w fun e w'=>e=.returned (.tuple #[.agg #[.int .u8 0,.int .u32 0],.int .u8 s]) ∧
   ∃j t,aa w j∧ae F j t∧R j t∧ae (fun k=>w.heap.size≤k∧k<j.heap.size) t w':=by
 have J:=Lib.hid E
 have j:=Lib.hid I
 clear E I
 have O:¬F w.heap.size:=fun h=>by have:=j.out _ h;omega
 have z:¬F (w.heap.size+1):=fun h=>by have:=j.out _ h;omega
 go_enter Tryz.func190,Tryz.ntmps190
 go_wp2_with (go_at_call 80;refine(J.out _ (by(exact kp))).mono ?_;rintro e w1 ⟨rfl,q,K⟩;have L:=q.size;simp only[World.size_alloc]at L;have j:=q.cell (a:=⟨w.heap.size,1,none⟩) O (v:=.int .u8 r.I) (by simp);have S:=q.cell (a:=⟨w.heap.size+1,0,none⟩) z (v:=.int .u8 0) (by simp);have T:=q.cell (a:=⟨w.heap.size+1,1,none⟩) z (v:=.int .u32 0) (by simp);have j:=fun o:Nat=>q.frozen (a:=⟨w.heap.size+1,o,none⟩) (by simp) z (by simp);have N:w.heap.size+1<w1.heap.size:=(by omega);have j:w.heap.size<w1.heap.size:=(by omega))
 refine bodyPost_ret (v:=.tuple #[.agg #[.int .u8 0,.int .u32 0],.int .u8 s]) (by simp[results,Tryz.results190,go_sem,N,S,T]) rfl ⟨rfl,_,w1,?_,q,K,?_⟩
 ·(exact kp)
 ·(have j:(w.alloc (.cells #[.int .u8 r.ad,.int .u8 r.I,.int .u8 r.J,.int .u8 r.lo.tag,.int .u32 r.lo.to,.int .u8 r.hi.tag,.int .u32 r.hi.to] 134)).heap.size=w.heap.size+1:=by simp);(try simp only[World.size_alloc]);(repeat (first|with_reducible exact ae.refl _ _|refine ae.setCell ?_ (Or.inl (by dsimp only;omega)) _|with_reducible refine ae.drewN ?_ _|with_reducible refine ae.drew ?_|with_reducible refine ae.alloc ?_ _))

theorem uj {F:Nat→Prop}(z:Nat)(r:Rec)(id:Int)(w:World)(T:z<w.heap.size)(E:∀k,F k→k<w.heap.size)(R:World→World→Prop)
  (A:∀j,aa w j→Calls Tryz.prog 80 #[.pointer (some ⟨z,0,none⟩),.agg #[.int .u8 r.ad,.int .u8 r.I,.int .u8 r.J,.int .u8 r.lo.tag,.int .u32 r.lo.to,.int .u8 r.hi.tag,.int .u32 r.hi.to]] j fun e w'=>e=.returned (.tuple #[.int .u32 id,.int .u8 0])∧ae F j w'∧R j w') :
  Calls Tryz.prog 188 #[.pointer (some ⟨z,0,none⟩),.agg #[.int .u8 r.ad,.int .u8 r.I,.int .u8 r.J,.int .u8 r.lo.tag,.int .u32 r.lo.to,.int .u8 r.hi.tag,.int .u32 r.hi.to]] w fun e w'=>e=.returned (.tuple #[.agg #[.int .u8 0,.int .u32 id],.int .u8 0]) ∧
   ∃j s,aa w j∧ae F j s∧R j s∧ae (fun k=>w.heap.size≤k∧k<j.heap.size) s w':=by
 have I:=Lib.hid A
 have j:=Lib.hid E
 clear A E
 have N:¬F w.heap.size:=fun h=>by have:=j.out _ h;omega
 have t:¬F (w.heap.size+1):=fun h=>by have:=j.out _ h;omega
 go_enter Tryz.func188,Tryz.ntmps188
 go_wp2_with (go_at_call 80;refine(I.out _ (by(exact kp))).mono ?_;rintro e w1 ⟨rfl,q,J⟩;have K:=q.size;simp only[World.size_alloc]at K;have j:=q.cell (a:=⟨w.heap.size,1,none⟩) N (v:=.int .u8 r.I) (by simp);have O:=q.cell (a:=⟨w.heap.size+1,0,none⟩) t (v:=.int .u8 0) (by simp);have S:=q.cell (a:=⟨w.heap.size+1,1,none⟩) t (v:=.int .u32 0) (by simp);have j:=fun o:Nat=>q.frozen (a:=⟨w.heap.size+1,o,none⟩) (by simp) t (by simp);have L:w.heap.size+1<w1.heap.size:=(by omega);have j:w.heap.size<w1.heap.size:=(by omega))
 refine bodyPost_ret (v:=.tuple #[.agg #[.int .u8 0,.int .u32 id],.int .u8 0]) (by simp[results,Tryz.results188,go_sem,L,O,S]) rfl ⟨rfl,_,w1,?_,q,J,?_⟩
 ·(exact kp)
 ·(have j:(w.alloc (.cells #[.int .u8 r.ad,.int .u8 r.I,.int .u8 r.J,.int .u8 r.lo.tag,.int .u32 r.lo.to,.int .u8 r.hi.tag,.int .u32 r.hi.to] 134)).heap.size=w.heap.size+1:=by simp);(try simp only[World.size_alloc]);(repeat (first|with_reducible exact ae.refl _ _|refine ae.setCell ?_ (Or.inl (by dsimp only;omega)) _|with_reducible refine ae.drewN ?_ _|with_reducible refine ae.drew ?_|with_reducible refine ae.alloc ?_ _))

theorem ui {F:Nat→Prop}(A:Nat)(r:Rec)(id s:Int)(U:s≠0)(w:World)(W:A<w.heap.size)(I:∀k,F k→k<w.heap.size)(R:World→World→Prop)
  (E:∀j,aa w j→Calls Tryz.prog 80 #[.pointer (some ⟨A,0,none⟩),.agg #[.int .u8 r.ad,.int .u8 r.I,.int .u8 r.J,.int .u8 r.lo.tag,.int .u32 r.lo.to,.int .u8 r.hi.tag,.int .u32 r.hi.to]] j fun e w'=>e=.returned (.tuple #[.int .u32 id,.int .u8 s])∧ae F j w'∧R j w') :
  Calls Tryz.prog 188 #[.pointer (some ⟨A,0,none⟩),.agg #[.int .u8 r.ad,.int .u8 r.I,.int .u8 r.J,.int .u8 r.lo.tag,.int .u32 r.lo.to,.int .u8 r.hi.tag,.int .u32 r.hi.to]] w fun e w'=>e=.returned (.tuple #[.agg #[.int .u8 0,.int .u32 0],.int .u8 s]) ∧
   ∃j t,aa w j∧ae F j t∧R j t∧ae (fun k=>w.heap.size≤k∧k<j.heap.size) t w':=by
 have J:=Lib.hid E
 have j:=Lib.hid I
 clear E I
 have O:¬F w.heap.size:=fun h=>by have:=j.out _ h;omega
 have z:¬F (w.heap.size+1):=fun h=>by have:=j.out _ h;omega
 go_enter Tryz.func188,Tryz.ntmps188
 go_wp2_with (go_at_call 80;refine(J.out _ (by(exact kp))).mono ?_;rintro e w1 ⟨rfl,q,K⟩;have L:=q.size;simp only[World.size_alloc]at L;have j:=q.cell (a:=⟨w.heap.size,1,none⟩) O (v:=.int .u8 r.I) (by simp);have S:=q.cell (a:=⟨w.heap.size+1,0,none⟩) z (v:=.int .u8 0) (by simp);have T:=q.cell (a:=⟨w.heap.size+1,1,none⟩) z (v:=.int .u32 0) (by simp);have j:=fun o:Nat=>q.frozen (a:=⟨w.heap.size+1,o,none⟩) (by simp) z (by simp);have N:w.heap.size+1<w1.heap.size:=(by omega);have j:w.heap.size<w1.heap.size:=(by omega))
 refine bodyPost_ret (v:=.tuple #[.agg #[.int .u8 0,.int .u32 0],.int .u8 s]) (by simp[results,Tryz.results188,go_sem,N,S,T]) rfl ⟨rfl,_,w1,?_,q,K,?_⟩
 ·(exact kp)
 ·(have j:(w.alloc (.cells #[.int .u8 r.ad,.int .u8 r.I,.int .u8 r.J,.int .u8 r.lo.tag,.int .u32 r.lo.to,.int .u8 r.hi.tag,.int .u32 r.hi.to] 134)).heap.size=w.heap.size+1:=by simp);(try simp only[World.size_alloc]);(repeat (first|with_reducible exact ae.refl _ _|refine ae.setCell ?_ (Or.inl (by dsimp only;omega)) _|with_reducible refine ae.drewN ?_ _|with_reducible refine ae.drew ?_|with_reducible refine ae.alloc ?_ _))

theorem CV {F:Nat→Prop}(z:Nat)(r:Rec)(id:Int)(w:World)(T:z<w.heap.size)(E:∀k,F k→k<w.heap.size)(R:World→World→Prop)
  (A:∀j,aa w j→Calls Tryz.prog 80 #[.pointer (some ⟨z,0,none⟩),.agg #[.int .u8 r.ad,.int .u8 r.I,.int .u8 r.J,.int .u8 r.lo.tag,.int .u32 r.lo.to,.int .u8 r.hi.tag,.int .u32 r.hi.to]] j fun e w'=>e=.returned (.tuple #[.int .u32 id,.int .u8 0])∧ae F j w'∧R j w') :
  Calls Tryz.prog 189 #[.pointer (some ⟨z,0,none⟩),.agg #[.int .u8 r.ad,.int .u8 r.I,.int .u8 r.J,.int .u8 r.lo.tag,.int .u32 r.lo.to,.int .u8 r.hi.tag,.int .u32 r.hi.to]] w fun e w'=>e=.returned (.tuple #[.agg #[.int .u8 0,.int .u32 id],.int .u8 0]) ∧
   ∃j s,aa w j∧ae F j s∧R j s∧ae (fun k=>w.heap.size≤k∧k<j.heap.size) s w':=by
 have I:=Lib.hid A
 have j:=Lib.hid E
 clear A E
 have N:¬F w.heap.size:=fun h=>by have:=j.out _ h;omega
 have t:¬F (w.heap.size+1):=fun h=>by have:=j.out _ h;omega
 go_enter Tryz.func189,Tryz.ntmps189
 go_wp2_with (go_at_call 80;refine(I.out _ (by(exact kp))).mono ?_;rintro e w1 ⟨rfl,q,J⟩;have K:=q.size;simp only[World.size_alloc]at K;have j:=q.cell (a:=⟨w.heap.size,1,none⟩) N (v:=.int .u8 r.I) (by simp);have O:=q.cell (a:=⟨w.heap.size+1,0,none⟩) t (v:=.int .u8 0) (by simp);have S:=q.cell (a:=⟨w.heap.size+1,1,none⟩) t (v:=.int .u32 0) (by simp);have j:=fun o:Nat=>q.frozen (a:=⟨w.heap.size+1,o,none⟩) (by simp) t (by simp);have L:w.heap.size+1<w1.heap.size:=(by omega);have j:w.heap.size<w1.heap.size:=(by omega))
 refine bodyPost_ret (v:=.tuple #[.agg #[.int .u8 0,.int .u32 id],.int .u8 0]) (by simp[results,Tryz.results189,go_sem,L,O,S]) rfl ⟨rfl,_,w1,?_,q,J,?_⟩
 ·(exact kp)
 ·(have j:(w.alloc (.cells #[.int .u8 r.ad,.int .u8 r.I,.int .u8 r.J,.int .u8 r.lo.tag,.int .u32 r.lo.to,.int .u8 r.hi.tag,.int .u32 r.hi.to] 134)).heap.size=w.heap.size+1:=by simp);(try simp only[World.size_alloc]);(repeat (first|with_reducible exact ae.refl _ _|refine ae.setCell ?_ (Or.inl (by dsimp only;omega)) _|with_reducible refine ae.drewN ?_ _|with_reducible refine ae.drew ?_|with_reducible refine ae.alloc ?_ _))

theorem CU {F:Nat→Prop}(A:Nat)(r:Rec)(id s:Int)(U:s≠0)(w:World)(W:A<w.heap.size)(I:∀k,F k→k<w.heap.size)(R:World→World→Prop)
  (E:∀j,aa w j→Calls Tryz.prog 80 #[.pointer (some ⟨A,0,none⟩),.agg #[.int .u8 r.ad,.int .u8 r.I,.int .u8 r.J,.int .u8 r.lo.tag,.int .u32 r.lo.to,.int .u8 r.hi.tag,.int .u32 r.hi.to]] j fun e w'=>e=.returned (.tuple #[.int .u32 id,.int .u8 s])∧ae F j w'∧R j w') :
  Calls Tryz.prog 189 #[.pointer (some ⟨A,0,none⟩),.agg #[.int .u8 r.ad,.int .u8 r.I,.int .u8 r.J,.int .u8 r.lo.tag,.int .u32 r.lo.to,.int .u8 r.hi.tag,.int .u32 r.hi.to]] w fun e w'=>e=.returned (.tuple #[.agg #[.int .u8 0,.int .u32 0],.int .u8 s]) ∧
   ∃j t,aa w j∧ae F j t∧R j t∧ae (fun k=>w.heap.size≤k∧k<j.heap.size) t w':=by
 have J:=Lib.hid E
 have j:=Lib.hid I
 clear E I
 have O:¬F w.heap.size:=fun h=>by have:=j.out _ h;omega
 have z:¬F (w.heap.size+1):=fun h=>by have:=j.out _ h;omega
 go_enter Tryz.func189,Tryz.ntmps189
 go_wp2_with (go_at_call 80;refine(J.out _ (by(exact kp))).mono ?_;rintro e w1 ⟨rfl,q,K⟩;have L:=q.size;simp only[World.size_alloc]at L;have j:=q.cell (a:=⟨w.heap.size,1,none⟩) O (v:=.int .u8 r.I) (by simp);have S:=q.cell (a:=⟨w.heap.size+1,0,none⟩) z (v:=.int .u8 0) (by simp);have T:=q.cell (a:=⟨w.heap.size+1,1,none⟩) z (v:=.int .u32 0) (by simp);have j:=fun o:Nat=>q.frozen (a:=⟨w.heap.size+1,o,none⟩) (by simp) z (by simp);have N:w.heap.size+1<w1.heap.size:=(by omega);have j:w.heap.size<w1.heap.size:=(by omega))
 refine bodyPost_ret (v:=.tuple #[.agg #[.int .u8 0,.int .u32 0],.int .u8 s]) (by simp[results,Tryz.results189,go_sem,N,S,T]) rfl ⟨rfl,_,w1,?_,q,K,?_⟩
 ·(exact kp)
 ·(have j:(w.alloc (.cells #[.int .u8 r.ad,.int .u8 r.I,.int .u8 r.J,.int .u8 r.lo.tag,.int .u32 r.lo.to,.int .u8 r.hi.tag,.int .u32 r.hi.to] 134)).heap.size=w.heap.size+1:=by simp);(try simp only[World.size_alloc]);(repeat (first|with_reducible exact ae.refl _ _|refine ae.setCell ?_ (Or.inl (by dsimp only;omega)) _|with_reducible refine ae.drewN ?_ _|with_reducible refine ae.drew ?_|with_reducible refine ae.alloc ?_ _))

theorem vl (x y:Edge)(h:x=y)(j:World):(binOp .eql 52 (.agg #[.int .u8 x.tag,.int .u32 x.to]) (.agg #[.int .u8 y.tag,.int .u32 y.to])).run Tryz.prog j=.ok (.bool true) j:=by rw[ll];simp[h]

theorem mi (x y:Edge)(h:x≠y)(j:World):(binOp .eql 52 (.agg #[.int .u8 x.tag,.int .u32 x.to]) (.agg #[.int .u8 y.tag,.int .u32 y.to])).run Tryz.prog j=.ok (.bool false) j:=by rw[ll];simp[h]

theorem BG (j:Nat)(l n:Int)(lo hi:Edge)(w:World)(A:n≤16)
  (E:j<w.heap.size)
  (s:∀q,aa w q→Calls Tryz.prog 48 #[.pointer (some ⟨j,0,none⟩)] q fun e w'=>e=.returned (.int .i64 n)∧q=w')
  (z:l<0)
  : Calls Tryz.prog 125 #[.pointer (some ⟨j,0,none⟩),.int .i64 l,.agg #[.int .u8 lo.tag,.int .u32 lo.to],.agg #[.int .u8 hi.tag,.int .u32 hi.to]] w fun e w'=>e=.returned (.tuple #[.agg #[.int .u8 0,.int .u32 0],.int .u8 3])∧aa w w':=by
 have q:j<w.heap.size+1:=by omega
 have q:j<w.heap.size+1+1:=by omega
 have t:=Lib.hid s
 clear s
 go_enter Tryz.func125,Tryz.ntmps125
 go_wp2_with (first|(go_at_call 48;refine(t.out _ (by(exact kp))).mono ?_;rintro e w' ⟨rfl,rfl⟩)|fail)
 all_goals refine bodyPost_ret (v:=.tuple #[.agg #[.int .u8 0,.int .u32 0],.int .u8 3]) (by simp[results,Tryz.results125,go_sem]) rfl ⟨rfl,by(exact kp)⟩

theorem BB (j:Nat)(l n:Int)(lo hi:Edge)(w:World)(E:n≤16)
  (I:j<w.heap.size)
  (s:∀q,aa w q→Calls Tryz.prog 48 #[.pointer (some ⟨j,0,none⟩)] q fun e w'=>e=.returned (.int .i64 n)∧q=w')
  (z:0≤l) (A:n≤l)
  : Calls Tryz.prog 125 #[.pointer (some ⟨j,0,none⟩),.int .i64 l,.agg #[.int .u8 lo.tag,.int .u32 lo.to],.agg #[.int .u8 hi.tag,.int .u32 hi.to]] w fun e w'=>e=.returned (.tuple #[.agg #[.int .u8 0,.int .u32 0],.int .u8 3])∧aa w w':=by
 have q:j<w.heap.size+1:=by omega
 have q:j<w.heap.size+1+1:=by omega
 have t:=Lib.hid s
 clear s
 go_enter Tryz.func125,Tryz.ntmps125
 go_wp2_with (first|(go_at_call 48;refine(t.out _ (by(exact kp))).mono ?_;rintro e w' ⟨rfl,rfl⟩)|fail)
 all_goals refine bodyPost_ret (v:=.tuple #[.agg #[.int .u8 0,.int .u32 0],.int .u8 3]) (by simp[results,Tryz.results125,go_sem]) rfl ⟨rfl,by(exact kp)⟩

theorem BF (s:Nat)(l n:Int)(lo hi:Edge)(w:World)(S:n≤16)
  (T:s<w.heap.size)
  (z:∀q,aa w q→Calls Tryz.prog 48 #[.pointer (some ⟨s,0,none⟩)] q fun e w'=>e=.returned (.int .i64 n)∧q=w')
  (N:0≤l) (O:l<n)
  (t:∀q,aa w q→Calls Tryz.prog 134 #[.pointer (some ⟨s,0,none⟩),.int .u8 5,.agg #[.int .u8 lo.tag,.int .u32 lo.to],.int .i64 (l+1)] q fun e w'=>e=.returned (.bool false)∧aa q w')
  : Calls Tryz.prog 125 #[.pointer (some ⟨s,0,none⟩),.int .i64 l,.agg #[.int .u8 lo.tag,.int .u32 lo.to],.agg #[.int .u8 hi.tag,.int .u32 hi.to]] w fun e w'=>e=.returned (.tuple #[.agg #[.int .u8 0,.int .u32 0],.int .u8 1])∧aa w w':=by
 have q:s<w.heap.size+1:=by omega
 have q:s<w.heap.size+1+1:=by omega
 have E:=Lib.hid z
 clear z
 have A:=Lib.hid t
 clear t
 go_enter Tryz.func125,Tryz.ntmps125
 go_wp2_with (first|(go_at_call 48;refine(E.out _ (by(exact kp))).mono ?_;rintro e w' ⟨rfl,rfl⟩)|fail)
 (go_at_call 134;refine(A.out _ (by(exact kp))).mono ?_;rintro e w1 ⟨rfl,j⟩;have I:=j.size;simp only[World.size_alloc]at I;have q:w.heap.size<w1.heap.size:=(by omega);have q:w.heap.size+1<w1.heap.size:=(by omega);have J:w.heap.size+2<w1.heap.size:=(by omega);have q:=j.cell (a:=⟨w.heap.size,0,none⟩) (v:=.int .u8 lo.tag) (by simp[go_sem]);have q:=j.cell (a:=⟨w.heap.size,1,none⟩) (v:=.int .u32 lo.to) (by simp[go_sem]);have q:=j.cell (a:=⟨w.heap.size+1,0,none⟩) (v:=.int .u8 hi.tag) (by simp[go_sem]);have q:=j.cell (a:=⟨w.heap.size+1,1,none⟩) (v:=.int .u32 hi.to) (by simp[go_sem]);have K:=j.cell (a:=⟨w.heap.size+2,0,none⟩) (v:=.int .u8 0) (by simp[go_sem]);have L:=j.cell (a:=⟨w.heap.size+2,1,none⟩) (v:=.int .u32 0) (by simp[go_sem]);have q:=fun o:Nat=>(j.av (fun _=>False)).frozen (a:=⟨w.heap.size+2,o,none⟩) (by simp[go_sem]) (fun h=>h) (by simp[go_sem]);have j:aa w w1:=(by(exact kp)))
 go_wp2_with fail
 all_goals refine bodyPost_ret (v:=.tuple #[.agg #[.int .u8 0,.int .u32 0],.int .u8 1]) (by simp[results,Tryz.results125,go_sem,J,K,L]) rfl ⟨rfl,by(exact kp)⟩

theorem BE (s:Nat)(l n:Int)(lo hi:Edge)(w:World)(av:n≤16)
  (aw:s<w.heap.size)
  (J:∀q,aa w q→Calls Tryz.prog 48 #[.pointer (some ⟨s,0,none⟩)] q fun e w'=>e=.returned (.int .i64 n)∧q=w')
  (ad:0≤l) (am:l<n)
  (E:∀q,aa w q→Calls Tryz.prog 134 #[.pointer (some ⟨s,0,none⟩),.int .u8 5,.agg #[.int .u8 lo.tag,.int .u32 lo.to],.int .i64 (l+1)] q fun e w'=>e=.returned (.bool true)∧aa q w')
  (A:∀q,aa w q→Calls Tryz.prog 134 #[.pointer (some ⟨s,0,none⟩),.int .u8 5,.agg #[.int .u8 hi.tag,.int .u32 hi.to],.int .i64 (l+1)] q fun e w'=>e=.returned (.bool false)∧aa q w')
  : Calls Tryz.prog 125 #[.pointer (some ⟨s,0,none⟩),.int .i64 l,.agg #[.int .u8 lo.tag,.int .u32 lo.to],.agg #[.int .u8 hi.tag,.int .u32 hi.to]] w fun e w'=>e=.returned (.tuple #[.agg #[.int .u8 0,.int .u32 0],.int .u8 1])∧aa w w':=by
 have q:s<w.heap.size+1:=by omega
 have q:s<w.heap.size+1+1:=by omega
 have X:=Lib.hid J
 clear J
 have W:=Lib.hid E
 clear E
 have U:=Lib.hid A
 clear A
 go_enter Tryz.func125,Tryz.ntmps125
 go_wp2_with (first|(go_at_call 48;refine(X.out _ (by(exact kp))).mono ?_;rintro e w' ⟨rfl,rfl⟩)|fail)
 (go_at_call 134;refine(W.out _ (by(exact kp))).mono ?_;rintro e w1 ⟨rfl,j⟩;have I:=j.size;simp only[World.size_alloc]at I;have Z:w.heap.size<w1.heap.size:=(by omega);have ab:w.heap.size+1<w1.heap.size:=(by omega);have K:w.heap.size+2<w1.heap.size:=(by omega);have O:=j.cell (a:=⟨w.heap.size,0,none⟩) (v:=.int .u8 lo.tag) (by simp[go_sem]);have S:=j.cell (a:=⟨w.heap.size,1,none⟩) (v:=.int .u32 lo.to) (by simp[go_sem]);have L:=j.cell (a:=⟨w.heap.size+1,0,none⟩) (v:=.int .u8 hi.tag) (by simp[go_sem]);have N:=j.cell (a:=⟨w.heap.size+1,1,none⟩) (v:=.int .u32 hi.to) (by simp[go_sem]);have t:=j.cell (a:=⟨w.heap.size+2,0,none⟩) (v:=.int .u8 0) (by simp[go_sem]);have z:=j.cell (a:=⟨w.heap.size+2,1,none⟩) (v:=.int .u32 0) (by simp[go_sem]);have T:=fun o:Nat=>(j.av (fun _=>False)).frozen (a:=⟨w.heap.size+2,o,none⟩) (by simp[go_sem]) (fun h=>h) (by simp[go_sem]);have Y:aa w w1:=(by(exact kp)))
 go_wp2_with fail
 (go_at_call 134;refine(U.out _ (by(exact kp))).mono ?_;rintro e w1 ⟨rfl,j⟩;have I:=j.size;have T:=fun o:Nat=>(j.av (fun _=>False)).frozen (a:=⟨w.heap.size+2,o,none⟩) (by dsimp only;omega) (fun h=>h) (T o);have O:=j.cell O;have S:=j.cell S;have L:=j.cell L;have N:=j.cell N;have t:=j.cell t;have z:=j.cell z;have Z:w.heap.size<w1.heap.size:=(by omega);have ab:w.heap.size+1<w1.heap.size:=(by omega);have K:w.heap.size+2<w1.heap.size:=(by omega);have Y:aa w w1:=(by(exact kp)))
 go_wp2_with fail
 all_goals refine bodyPost_ret (v:=.tuple #[.agg #[.int .u8 0,.int .u32 0],.int .u8 1]) (by simp[results,Tryz.results125,go_sem,K,t,z]) rfl ⟨rfl,by(exact kp)⟩

theorem BH (s:Nat)(l n:Int)(lo hi:Edge)(w:World)(aw:n≤16)
  (a1:s<w.heap.size)
  (K:∀q,aa w q→Calls Tryz.prog 48 #[.pointer (some ⟨s,0,none⟩)] q fun e w'=>e=.returned (.int .i64 n)∧q=w')
  (am:0≤l) (av:l<n)
  (t:lo=hi)
  (I:∀q,aa w q→Calls Tryz.prog 134 #[.pointer (some ⟨s,0,none⟩),.int .u8 5,.agg #[.int .u8 lo.tag,.int .u32 lo.to],.int .i64 (l+1)] q fun e w'=>e=.returned (.bool true)∧aa q w')
  (E:∀q,aa w q→Calls Tryz.prog 134 #[.pointer (some ⟨s,0,none⟩),.int .u8 5,.agg #[.int .u8 hi.tag,.int .u32 hi.to],.int .i64 (l+1)] q fun e w'=>e=.returned (.bool true)∧aa q w')
  : Calls Tryz.prog 125 #[.pointer (some ⟨s,0,none⟩),.int .i64 l,.agg #[.int .u8 lo.tag,.int .u32 lo.to],.agg #[.int .u8 hi.tag,.int .u32 hi.to]] w fun e w'=>e=.returned (.tuple #[.agg #[.int .u8 lo.tag,.int .u32 lo.to],.int .u8 0])∧aa w w':=by
 have q:s<w.heap.size+1:=by omega
 have q:s<w.heap.size+1+1:=by omega
 have Y:=Lib.hid K
 clear K
 have X:=Lib.hid I
 clear I
 have W:=Lib.hid E
 clear E
 have q:=vl lo hi t
 have q:=Lib.hid t
 clear t
 go_enter Tryz.func125,Tryz.ntmps125
 go_wp2_with (first|(go_at_call 48;refine(Y.out _ (by(exact kp))).mono ?_;rintro e w' ⟨rfl,rfl⟩)|fail)
 (go_at_call 134;refine(X.out _ (by(exact kp))).mono ?_;rintro e w1 ⟨rfl,j⟩;have J:=j.size;simp only[World.size_alloc]at J;have ab:w.heap.size<w1.heap.size:=(by omega);have ad:w.heap.size+1<w1.heap.size:=(by omega);have L:w.heap.size+2<w1.heap.size:=(by omega);have S:=j.cell (a:=⟨w.heap.size,0,none⟩) (v:=.int .u8 lo.tag) (by simp[go_sem]);have T:=j.cell (a:=⟨w.heap.size,1,none⟩) (v:=.int .u32 lo.to) (by simp[go_sem]);have N:=j.cell (a:=⟨w.heap.size+1,0,none⟩) (v:=.int .u8 hi.tag) (by simp[go_sem]);have O:=j.cell (a:=⟨w.heap.size+1,1,none⟩) (v:=.int .u32 hi.to) (by simp[go_sem]);have z:=j.cell (a:=⟨w.heap.size+2,0,none⟩) (v:=.int .u8 0) (by simp[go_sem]);have A:=j.cell (a:=⟨w.heap.size+2,1,none⟩) (v:=.int .u32 0) (by simp[go_sem]);have U:=fun o:Nat=>(j.av (fun _=>False)).frozen (a:=⟨w.heap.size+2,o,none⟩) (by simp[go_sem]) (fun h=>h) (by simp[go_sem]);have Z:aa w w1:=(by(exact kp)))
 go_wp2_with fail
 (go_at_call 134;refine(W.out _ (by(exact kp))).mono ?_;rintro e w1 ⟨rfl,j⟩;have J:=j.size;have U:=fun o:Nat=>(j.av (fun _=>False)).frozen (a:=⟨w.heap.size+2,o,none⟩) (by dsimp only;omega) (fun h=>h) (U o);have S:=j.cell S;have T:=j.cell T;have N:=j.cell N;have O:=j.cell O;have z:=j.cell z;have A:=j.cell A;have ab:w.heap.size<w1.heap.size:=(by omega);have ad:w.heap.size+1<w1.heap.size:=(by omega);have L:w.heap.size+2<w1.heap.size:=(by omega);have Z:aa w w1:=(by(exact kp)))
 go_wp2_with fail
 all_goals refine bodyPost_ret (v:=.tuple #[.agg #[.int .u8 lo.tag,.int .u32 lo.to],.int .u8 0]) (by simp[results,Tryz.results125,go_sem,L,z,A]) rfl ⟨rfl,by(exact kp)⟩

theorem BI (t:Nat)(l n:Int)(s z:Int)(w:World)(a2:n≤16)
  (a3:t<w.heap.size)
  (N:∀q,aa w q→Calls Tryz.prog 48 #[.pointer (some ⟨t,0,none⟩)] q fun e w'=>e=.returned (.int .i64 n)∧q=w')
  (aw:0≤l) (a1:l<n)
  (A:¬(⟨l+1,s⟩:Edge)=⟨z,0⟩)
  (K:∀q,aa w q→Calls Tryz.prog 134 #[.pointer (some ⟨t,0,none⟩),.int .u8 5,.agg #[.int .u8 (l+1),.int .u32 s],.int .i64 (l+1)] q fun e w'=>e=.returned (.bool true)∧aa q w')
  (J:∀q,aa w q→Calls Tryz.prog 134 #[.pointer (some ⟨t,0,none⟩),.int .u8 5,.agg #[.int .u8 z,.int .u32 0],.int .i64 (l+1)] q fun e w'=>e=.returned (.bool true)∧aa q w')
  : Calls Tryz.prog 125 #[.pointer (some ⟨t,0,none⟩),.int .i64 l,.agg #[.int .u8 (l+1),.int .u32 s],.agg #[.int .u8 z,.int .u32 0]] w fun e w'=>e=.returned (.tuple #[.agg #[.int .u8 l,.int .u32 s],.int .u8 0])∧aa w w':=by
 have q:t<w.heap.size+1:=by omega
 have q:t<w.heap.size+1+1:=by omega
 have ab:=Lib.hid N
 clear N
 have Z:=Lib.hid K
 clear K
 have Y:=Lib.hid J
 clear J
 have q:=mi ⟨l+1,s⟩ ⟨z,0⟩ A
 have q:=Lib.hid A
 clear A
 go_enter Tryz.func125,Tryz.ntmps125
 go_wp2_with (first|(go_at_call 48;refine(ab.out _ (by(exact kp))).mono ?_;rintro e w' ⟨rfl,rfl⟩)|fail)
 (go_at_call 134;refine(Z.out _ (by(exact kp))).mono ?_;rintro e w1 ⟨rfl,j⟩;have L:=j.size;simp only[World.size_alloc]at L;have am:w.heap.size<w1.heap.size:=(by omega);have av:w.heap.size+1<w1.heap.size:=(by omega);have O:w.heap.size+2<w1.heap.size:=(by omega);have U:=j.cell (a:=⟨w.heap.size,0,none⟩) (v:=.int .u8 (l+1)) (by simp[go_sem]);have W:=j.cell (a:=⟨w.heap.size,1,none⟩) (v:=.int .u32 s) (by simp[go_sem]);have S:=j.cell (a:=⟨w.heap.size+1,0,none⟩) (v:=.int .u8 z) (by simp[go_sem]);have T:=j.cell (a:=⟨w.heap.size+1,1,none⟩) (v:=.int .u32 0) (by simp[go_sem]);have E:=j.cell (a:=⟨w.heap.size+2,0,none⟩) (v:=.int .u8 0) (by simp[go_sem]);have I:=j.cell (a:=⟨w.heap.size+2,1,none⟩) (v:=.int .u32 0) (by simp[go_sem]);have X:=fun o:Nat=>(j.av (fun _=>False)).frozen (a:=⟨w.heap.size+2,o,none⟩) (by simp[go_sem]) (fun h=>h) (by simp[go_sem]);have ad:aa w w1:=(by(exact kp)))
 go_wp2_with fail
 (go_at_call 134;refine(Y.out _ (by(exact kp))).mono ?_;rintro e w1 ⟨rfl,j⟩;have L:=j.size;have X:=fun o:Nat=>(j.av (fun _=>False)).frozen (a:=⟨w.heap.size+2,o,none⟩) (by dsimp only;omega) (fun h=>h) (X o);have U:=j.cell U;have W:=j.cell W;have S:=j.cell S;have T:=j.cell T;have E:=j.cell E;have I:=j.cell I;have am:w.heap.size<w1.heap.size:=(by omega);have av:w.heap.size+1<w1.heap.size:=(by omega);have O:w.heap.size+2<w1.heap.size:=(by omega);have ad:aa w w1:=(by(exact kp)))
 go_wp2_with fail
 all_goals refine bodyPost_ret (v:=.tuple #[.agg #[.int .u8 l,.int .u32 s],.int .u8 0]) (by simp[results,Tryz.results125,go_sem,O,E,I]) rfl ⟨rfl,by(exact kp)⟩

theorem BC {F:Nat→Prop}(R:World→World→Prop)(s:Nat)(l n a b A:Int)(lo hi:Edge)(w:World)(bp:n≤16)
  (bq:s<w.heap.size)
  (X:∀j,aa w j→Calls Tryz.prog 48 #[.pointer (some ⟨s,0,none⟩)] j fun e w'=>e=.returned (.int .i64 n)∧j=w')
  (bb:0≤l) (be:l<n) (E:¬lo=hi) (bg:¬hi.to=0) (bi:0≤lo.tag) (bn:lo.tag≤255) (U:∀k,F k→k<w.heap.size)
  (T:∀j,aa w j→Calls Tryz.prog 134 #[.pointer (some ⟨s,0,none⟩),.int .u8 5,.agg #[.int .u8 lo.tag,.int .u32 lo.to],.int .i64 (l+1)] j fun e w'=>e=.returned (.bool true)∧aa j w')
  (O:∀j,aa w j→Calls Tryz.prog 134 #[.pointer (some ⟨s,0,none⟩),.int .u8 5,.agg #[.int .u8 hi.tag,.int .u32 hi.to],.int .i64 (l+1)] j fun e w'=>e=.returned (.bool true)∧aa j w')
  (N:∀j,aa w j→Calls Tryz.prog 190 #[.pointer (some ⟨s,0,none⟩),.agg #[.int .u8 5,.int .u8 l,.int .u8 l,.int .u8 lo.tag,.int .u32 lo.to,.int .u8 hi.tag,.int .u32 hi.to]] j fun e w'=>e=.returned (.tuple #[.agg #[.int .u8 a,.int .u32 b],.int .u8 A])∧ae F j w'∧R j w')
  : Calls Tryz.prog 125 #[.pointer (some ⟨s,0,none⟩),.int .i64 l,.agg #[.int .u8 lo.tag,.int .u32 lo.to],.agg #[.int .u8 hi.tag,.int .u32 hi.to]] w fun e w'=>e=.returned (.tuple #[.agg #[.int .u8 a,.int .u32 b],.int .u8 A]) ∧
   ∃j z,aa w j∧ae F j z∧R j z∧ae (fun k=>w.heap.size≤k∧k<j.heap.size) z w':=by
 have j:s<w.heap.size+1:=by omega
 have j:s<w.heap.size+1+1:=by omega
 have I:¬F (w.heap.size+2):=fun h=>by have:=U _ h;omega
 have a3:=Lib.hid X
 clear X
 have a2:=Lib.hid T
 have a1:=Lib.hid O
 have aw:=Lib.hid N
 have j:=mi lo hi E
 have j:=Lib.hid E
 clear E N O T U
 go_enter Tryz.func125,Tryz.ntmps125
 go_wp2_with (first|(go_at_call 48;refine(a3.out _ (by(exact kp))).mono ?_;rintro e w' ⟨rfl,rfl⟩)|fail)
 (go_at_call 134;refine(a2.out _ (by(exact kp))).mono ?_;rintro e w1 ⟨rfl,q⟩;have W:=q.size;simp only[World.size_alloc]at W;have a6:w.heap.size<w1.heap.size:=(by omega);have a7:w.heap.size+1<w1.heap.size:=(by omega);have Y:w.heap.size+2<w1.heap.size:=(by omega);have am:=q.cell (a:=⟨w.heap.size,0,none⟩) (v:=.int .u8 lo.tag) (by simp[go_sem]);have av:=q.cell (a:=⟨w.heap.size,1,none⟩) (v:=.int .u32 lo.to) (by simp[go_sem]);have ab:=q.cell (a:=⟨w.heap.size+1,0,none⟩) (v:=.int .u8 hi.tag) (by simp[go_sem]);have ad:=q.cell (a:=⟨w.heap.size+1,1,none⟩) (v:=.int .u32 hi.to) (by simp[go_sem]);have J:=q.cell (a:=⟨w.heap.size+2,0,none⟩) (v:=.int .u8 0) (by simp[go_sem]);have K:=q.cell (a:=⟨w.heap.size+2,1,none⟩) (v:=.int .u32 0) (by simp[go_sem]);have L:=fun o:Nat=>(q.av (fun _=>False)).frozen (a:=⟨w.heap.size+2,o,none⟩) (by simp[go_sem]) (fun h=>h) (by simp[go_sem]);have S:aa w w1:=(by(exact kp)))
 go_wp2_with fail
 (go_at_call 134;refine(a1.out _ (by(exact kp))).mono ?_;rintro e w1 ⟨rfl,q⟩;have W:=q.size;have L:=fun o:Nat=>(q.av (fun _=>False)).frozen (a:=⟨w.heap.size+2,o,none⟩) (by dsimp only;omega) (fun h=>h) (L o);have am:=q.cell am;have av:=q.cell av;have ab:=q.cell ab;have ad:=q.cell ad;have J:=q.cell J;have K:=q.cell K;have a6:w.heap.size<w1.heap.size:=(by omega);have a7:w.heap.size+1<w1.heap.size:=(by omega);have Y:w.heap.size+2<w1.heap.size:=(by omega);have S:aa w w1:=(by(exact kp)))
 go_wp2_with (first|(go_at_call 190;refine(aw.out _ (by(exact kp))).mono ?_;rintro e Z ⟨rfl,t,a4⟩;have j:=t.size;have a5:w.heap.size+2<Z.heap.size:=(by omega);have a8:=t.cell (a:=⟨w.heap.size+2,0,none⟩) I J;have a':=t.cell (a:=⟨w.heap.size+2,1,none⟩) I K;have j:=fun o:Nat=>t.frozen (a:=⟨w.heap.size+2,o,none⟩) Y I (L o))|fail)
 refine bodyPost_ret (v:=.tuple #[.agg #[.int .u8 a,.int .u32 b],.int .u8 A]) (by simp[results,Tryz.results125,go_sem,a5,a8,a']) rfl ⟨rfl,w1,Z,S,t,a4,?_⟩
 (repeat (first|with_reducible exact ae.refl _ _|refine ae.setCell ?_ (Or.inl (by dsimp only;omega)) _|with_reducible refine ae.drewN ?_ _|with_reducible refine ae.drew ?_|with_reducible refine ae.alloc ?_ _))

theorem BD {F:Nat→Prop}(R:World→World→Prop)(s:Nat)(l n a b E:Int)(lo:Edge)(t:Int)(w:World)(bq:n≤16)
  (br:s<w.heap.size)
  (Y:∀j,aa w j→Calls Tryz.prog 48 #[.pointer (some ⟨s,0,none⟩)] j fun e w'=>e=.returned (.int .i64 n)∧j=w')
  (be:0≤l) (bg:l<n) (I:¬lo=(⟨t,0⟩:Edge)) (bi:¬lo.tag=l+1) (bn:0≤lo.tag) (bp:lo.tag≤255) (W:∀k,F k→k<w.heap.size)
  (U:∀j,aa w j→Calls Tryz.prog 134 #[.pointer (some ⟨s,0,none⟩),.int .u8 5,.agg #[.int .u8 lo.tag,.int .u32 lo.to],.int .i64 (l+1)] j fun e w'=>e=.returned (.bool true)∧aa j w')
  (S:∀j,aa w j→Calls Tryz.prog 134 #[.pointer (some ⟨s,0,none⟩),.int .u8 5,.agg #[.int .u8 t,.int .u32 0],.int .i64 (l+1)] j fun e w'=>e=.returned (.bool true)∧aa j w')
  (O:∀j,aa w j→Calls Tryz.prog 190 #[.pointer (some ⟨s,0,none⟩),.agg #[.int .u8 5,.int .u8 l,.int .u8 l,.int .u8 lo.tag,.int .u32 lo.to,.int .u8 t,.int .u32 0]] j fun e w'=>e=.returned (.tuple #[.agg #[.int .u8 a,.int .u32 b],.int .u8 E])∧ae F j w'∧R j w')
  : Calls Tryz.prog 125 #[.pointer (some ⟨s,0,none⟩),.int .i64 l,.agg #[.int .u8 lo.tag,.int .u32 lo.to],.agg #[.int .u8 t,.int .u32 0]] w fun e w'=>e=.returned (.tuple #[.agg #[.int .u8 a,.int .u32 b],.int .u8 E]) ∧
   ∃j A,aa w j∧ae F j A∧R j A∧ae (fun k=>w.heap.size≤k∧k<j.heap.size) A w':=by
 have j:s<w.heap.size+1:=by omega
 have j:s<w.heap.size+1+1:=by omega
 have J:¬F (w.heap.size+2):=fun h=>by have:=W _ h;omega
 have a4:=Lib.hid Y
 clear Y
 have a3:=Lib.hid U
 have a2:=Lib.hid S
 have a1:=Lib.hid O
 have j:=mi lo ⟨t,0⟩ I
 have j:=Lib.hid I
 clear I O S U W
 go_enter Tryz.func125,Tryz.ntmps125
 go_wp2_with (first|(go_at_call 48;refine(a4.out _ (by(exact kp))).mono ?_;rintro e w' ⟨rfl,rfl⟩)|fail)
 (go_at_call 134;refine(a3.out _ (by(exact kp))).mono ?_;rintro e w1 ⟨rfl,q⟩;have X:=q.size;simp only[World.size_alloc]at X;have a7:w.heap.size<w1.heap.size:=(by omega);have a8:w.heap.size+1<w1.heap.size:=(by omega);have Z:w.heap.size+2<w1.heap.size:=(by omega);have av:=q.cell (a:=⟨w.heap.size,0,none⟩) (v:=.int .u8 lo.tag) (by simp[go_sem]);have aw:=q.cell (a:=⟨w.heap.size,1,none⟩) (v:=.int .u32 lo.to) (by simp[go_sem]);have ad:=q.cell (a:=⟨w.heap.size+1,0,none⟩) (v:=.int .u8 t) (by simp[go_sem]);have am:=q.cell (a:=⟨w.heap.size+1,1,none⟩) (v:=.int .u32 0) (by simp[go_sem]);have K:=q.cell (a:=⟨w.heap.size+2,0,none⟩) (v:=.int .u8 0) (by simp[go_sem]);have L:=q.cell (a:=⟨w.heap.size+2,1,none⟩) (v:=.int .u32 0) (by simp[go_sem]);have N:=fun o:Nat=>(q.av (fun _=>False)).frozen (a:=⟨w.heap.size+2,o,none⟩) (by simp[go_sem]) (fun h=>h) (by simp[go_sem]);have T:aa w w1:=(by(exact kp)))
 go_wp2_with fail
 (go_at_call 134;refine(a2.out _ (by(exact kp))).mono ?_;rintro e w1 ⟨rfl,q⟩;have X:=q.size;have N:=fun o:Nat=>(q.av (fun _=>False)).frozen (a:=⟨w.heap.size+2,o,none⟩) (by dsimp only;omega) (fun h=>h) (N o);have av:=q.cell av;have aw:=q.cell aw;have ad:=q.cell ad;have am:=q.cell am;have K:=q.cell K;have L:=q.cell L;have a7:w.heap.size<w1.heap.size:=(by omega);have a8:w.heap.size+1<w1.heap.size:=(by omega);have Z:w.heap.size+2<w1.heap.size:=(by omega);have T:aa w w1:=(by(exact kp)))
 go_wp2_with (first|(go_at_call 190;refine(a1.out _ (by(exact kp))).mono ?_;rintro e ab ⟨rfl,z,a5⟩;have j:=z.size;have a6:w.heap.size+2<ab.heap.size:=(by omega);have a':=z.cell (a:=⟨w.heap.size+2,0,none⟩) J K;have bb:=z.cell (a:=⟨w.heap.size+2,1,none⟩) J L;have j:=fun o:Nat=>z.frozen (a:=⟨w.heap.size+2,o,none⟩) Z J (N o))|fail)
 refine bodyPost_ret (v:=.tuple #[.agg #[.int .u8 a,.int .u32 b],.int .u8 E]) (by simp[results,Tryz.results125,go_sem,a6,a',bb]) rfl ⟨rfl,w1,ab,T,z,a5,?_⟩
 (repeat (first|with_reducible exact ae.refl _ _|refine ae.setCell ?_ (Or.inl (by dsimp only;omega)) _|with_reducible refine ae.drewN ?_ _|with_reducible refine ae.drew ?_|with_reducible refine ae.alloc ?_ _))

theorem ag.a8 {F:Nat→Prop}{w w':World}{j:Nat}{M:St}(h:ag F w j M)(q:aa w w'):ae F w w'∧ag (au F w w') w' j M:=
 ⟨q.av F,(h.U q).mono (fun _ h=>.inl h) (fun k s=>by rcases s with j|j;exact(h.U q).lt k j;exact j.2)⟩

def ba (M:St)(tag:Int)(r:Rec):Edge:=if M.a7 r=0 then⟨tag,M.bg r⟩else⟨0,0⟩

theorem ag.pos {F:Nat→Prop}{w:World}{j:Nat}{M:St}(h:ag F w j M):j<w.heap.size:=h.lt _ h.own

theorem A9 {F:Nat→Prop}{w:World}{s:Nat}{M:St}(h:ag F w s M)(r:Rec)(N:r.ok) :
  Calls Tryz.prog 190 #[.pointer (some ⟨s,0,none⟩),.agg #[.int .u8 r.ad,.int .u8 r.I,.int .u8 r.J,.int .u8 r.lo.tag,.int .u32 r.lo.to,.int .u8 r.hi.tag,.int .u32 r.hi.to]] w fun e w'=>e=.returned (.tuple #[.agg #[.int .u8 (ba M r.I r).tag,.int .u32 (ba M r.I r).to],.int .u8 (M.a7 r)])∧ae F w w'∧ag (au F w w') w' s (M.a6 r):=by
 have K:=fun(j:World) (L:aa w j)=>jQ (h.U L) r N
 by_cases t:M.a7 r=0
 ·have z:ba M r.I r=⟨r.I,M.bg r⟩:=if_pos t;rw[z,t];rw[t]at K;refine(BA s r (M.bg r) w h.pos h.lt (fun j q=>ag (au F j q) q s (M.a6 r)) K).mono ?_;rintro e w' ⟨rfl,j,q,A,E,I,J⟩;exact⟨rfl,I.after h.lt A E J⟩
 ·have z:ba M r.I r=⟨0,0⟩:=if_neg t;rw[z];refine(Bz s r (M.bg r) (M.a7 r) t w h.pos h.lt (fun j q=>ag (au F j q) q s (M.a6 r)) K).mono ?_;rintro e w' ⟨rfl,j,q,A,E,I,J⟩;exact⟨rfl,I.after h.lt A E J⟩

def bo (M:St)(l:Int)(lo hi:Edge):(Edge×Int) ⊕ Rec:=
 if l<0∨M.n≤l then .inl (⟨0,0⟩,3)
 else if M.leads 5 lo (l+1)=false∨M.leads 5 hi (l+1)=false then .inl (⟨0,0⟩,1)
 else if lo=hi then .inl (lo,0)
 else if hi.to=0∧lo.tag=l+1 then .inl (⟨l,lo.to⟩,0)
 else .inr ⟨5,l,l,lo,hi⟩

def iJ (M:St):(Edge×Int) ⊕ Rec→Edge | .inl x=>x.1 | .inr r=>ba M r.I r
def bX (M:St):(Edge×Int) ⊕ Rec→Int | .inl x=>x.2 | .inr r=>M.a7 r
def aR (M:St):(Edge×Int) ⊕ Rec→St | .inl _=>M | .inr r=>M.a6 r
theorem cL (b:Bool):b=false∨b=true:=by cases b<;>simp

theorem Ba {F:Nat→Prop}{w:World}{s:Nat}{M:St}(h:ag F w s M)(l:Int)(lo hi:Edge)(T:lo.ok)(a3:hi.ok) :
  Calls Tryz.prog 125 #[.pointer (some ⟨s,0,none⟩),.int .i64 l,.agg #[.int .u8 lo.tag,.int .u32 lo.to],.agg #[.int .u8 hi.tag,.int .u32 hi.to]] w fun e w'=>
   e=.returned (.tuple #[.agg #[.int .u8 (iJ M (bo M l lo hi)).tag,.int .u32 (iJ M (bo M l lo hi)).to],.int .u8 (bX M (bo M l lo hi))])∧ae F w w'∧ag (au F w w') w' s (aR M (bo M l lo hi)):=by
 have E:=h.wf.bw
 have I:=fun(q:World) (N:aa w q)=>dw (h.U N)
 have z:=fun(q:World) (N:aa w q)=>cX (h.U N) 5 lo (l+1) T
 have O:=fun(q:World) (N:aa w q)=>cX (h.U N) 5 hi (l+1) a3
 by_cases U:l<0∨M.n≤l
 ·have e:bo M l lo hi=.inl (⟨0,0⟩,3):=if_pos U;rw[e];by_cases a4:l<0;·exact(BG s l M.n lo hi w E h.pos I a4).mono fun e w' j=>⟨j.1,h.a8 j.2⟩
  ·exact(BB s l M.n lo hi w E h.pos I (by omega) (by omega)).mono fun e w' j=>⟨j.1,h.a8 j.2⟩
 ·have A:0≤l:=by omega
  have S:l<M.n:=by omega
  by_cases t:M.leads 5 lo (l+1)=false∨M.leads 5 hi (l+1)=false
  ·have e:bo M l lo hi=.inl (⟨0,0⟩,1):=(by unfold bo;rw[if_neg U,if_pos t]);rw[e];rcases cL (M.leads 5 lo (l+1))with K|K
   ·rw[K]at z;exact(BF s l M.n lo hi w E h.pos I A S z).mono fun e w' j=>⟨j.1,h.a8 j.2⟩
   ·rcases t with t|Y;·rw[t]at K;cases K
    ·rw[K]at z;rw[Y]at O;exact(BE s l M.n lo hi w E h.pos I A S z O).mono fun e w' j=>⟨j.1,h.a8 j.2⟩
  ·have K:M.leads 5 lo (l+1)=true:=(by rcases cL (M.leads 5 lo (l+1))with b|b;exact(t (.inl b)).elim;exact b);have Y:M.leads 5 hi (l+1)=true:=(by rcases cL (M.leads 5 hi (l+1))with b|b;exact(t (.inr b)).elim;exact b);rw[K]at z;rw[Y]at O;by_cases L:lo=hi
   ·have e:bo M l lo hi=.inl (lo,0):=(by unfold bo;rw[if_neg U,if_neg t,if_pos L]);rw[e];exact(BH s l M.n lo hi w E h.pos I A S L z O).mono fun e w' j=>⟨j.1,h.a8 j.2⟩
   ·by_cases W:hi.to=0∧lo.tag=l+1
    ·have e:bo M l lo hi=.inl (⟨l,lo.to⟩,0):=(by unfold bo;rw[if_neg U,if_neg t,if_neg L,if_pos W]);rw[e];obtain⟨lt,a7⟩:=lo;obtain⟨X,a5⟩:=hi;obtain⟨aw,a1⟩:=W;dsimp only at aw a1;subst aw;subst a1;exact(BI s l M.n a7 X w E h.pos I A S L z O).mono fun e w' j=>⟨j.1,h.a8 j.2⟩
    ·have e:bo M l lo hi=.inr ⟨5,l,l,lo,hi⟩:=(by unfold bo;rw[if_neg U,if_neg t,if_neg L,if_neg W]);rw[e];have j:(⟨5,l,l,lo,hi⟩:Rec).ok:=⟨⟨by show(0:Int)≤5;decide,by show(5:Int)≤255;decide⟩,⟨A,by show l≤255;omega⟩,⟨A,by show l≤255;omega⟩,T,a3⟩;have a2:=fun(q:World) (N:aa w q)=>A9 (h.U N) ⟨5,l,l,lo,hi⟩ j;by_cases Z:hi.to=0
     ·obtain⟨X,a5⟩:=hi;dsimp only at Z;subst Z;refine(BD (fun q J=>ag (au F q J) J s (M.a6 ⟨5,l,l,lo,⟨X,0⟩⟩)) s l M.n _ _ _ lo X w E h.pos I A S L (fun a6=>W ⟨rfl,a6⟩) T.1.1 T.1.2 h.lt z O a2).mono ?_;rintro e w' ⟨rfl,q,J,ab,ad,am,av⟩;exact⟨rfl,am.after h.lt ab ad av⟩
     ·refine(BC (fun q J=>ag (au F q J) J s (M.a6 ⟨5,l,l,lo,hi⟩)) s l M.n _ _ _ lo hi w E h.pos I A S L Z T.1.1 T.1.2 h.lt z O a2).mono ?_;rintro e w' ⟨rfl,q,J,ab,ad,am,av⟩;exact⟨rfl,am.after h.lt ab ad av⟩

theorem tq {F:Nat→Prop}(z:Nat)(r:Rec)(id:Int)(w:World)(T:z<w.heap.size)(E:∀k,F k→k<w.heap.size)(R:World→World→Prop)
  (A:∀j,aa w j→Calls Tryz.prog 80 #[.pointer (some ⟨z,0,none⟩),.agg #[.int .u8 r.ad,.int .u8 r.I,.int .u8 r.J,.int .u8 r.lo.tag,.int .u32 r.lo.to,.int .u8 r.hi.tag,.int .u32 r.hi.to]] j fun e w'=>e=.returned (.tuple #[.int .u32 id,.int .u8 0])∧ae F j w'∧R j w') :
  Calls Tryz.prog 186 #[.pointer (some ⟨z,0,none⟩),.agg #[.int .u8 r.ad,.int .u8 r.I,.int .u8 r.J,.int .u8 r.lo.tag,.int .u32 r.lo.to,.int .u8 r.hi.tag,.int .u32 r.hi.to]] w fun e w'=>e=.returned (.tuple #[.agg #[.int .u8 0,.int .u32 id],.int .u8 0]) ∧
   ∃j s,aa w j∧ae F j s∧R j s∧ae (fun k=>w.heap.size≤k∧k<j.heap.size) s w':=by
 have I:=Lib.hid A
 have j:=Lib.hid E
 clear A E
 have N:¬F w.heap.size:=fun h=>by have:=j.out _ h;omega
 have t:¬F (w.heap.size+1):=fun h=>by have:=j.out _ h;omega
 go_enter Tryz.func186,Tryz.ntmps186
 go_wp2_with (go_at_call 80;refine(I.out _ (by(exact kp))).mono ?_;rintro e w1 ⟨rfl,q,J⟩;have K:=q.size;simp only[World.size_alloc]at K;have j:=q.cell (a:=⟨w.heap.size,1,none⟩) N (v:=.int .u8 r.I) (by simp);have O:=q.cell (a:=⟨w.heap.size+1,0,none⟩) t (v:=.int .u8 0) (by simp);have S:=q.cell (a:=⟨w.heap.size+1,1,none⟩) t (v:=.int .u32 0) (by simp);have j:=fun o:Nat=>q.frozen (a:=⟨w.heap.size+1,o,none⟩) (by simp) t (by simp);have L:w.heap.size+1<w1.heap.size:=(by omega);have j:w.heap.size<w1.heap.size:=(by omega))
 refine bodyPost_ret (v:=.tuple #[.agg #[.int .u8 0,.int .u32 id],.int .u8 0]) (by simp[results,Tryz.results186,go_sem,L,O,S]) rfl ⟨rfl,_,w1,?_,q,J,?_⟩
 ·(exact kp)
 ·(have j:(w.alloc (.cells #[.int .u8 r.ad,.int .u8 r.I,.int .u8 r.J,.int .u8 r.lo.tag,.int .u32 r.lo.to,.int .u8 r.hi.tag,.int .u32 r.hi.to] 134)).heap.size=w.heap.size+1:=by simp);(try simp only[World.size_alloc]);(repeat (first|with_reducible exact ae.refl _ _|refine ae.setCell ?_ (Or.inl (by dsimp only;omega)) _|with_reducible refine ae.drewN ?_ _|with_reducible refine ae.drew ?_|with_reducible refine ae.alloc ?_ _))

theorem tp {F:Nat→Prop}(A:Nat)(r:Rec)(id s:Int)(U:s≠0)(w:World)(W:A<w.heap.size)(I:∀k,F k→k<w.heap.size)(R:World→World→Prop)
  (E:∀j,aa w j→Calls Tryz.prog 80 #[.pointer (some ⟨A,0,none⟩),.agg #[.int .u8 r.ad,.int .u8 r.I,.int .u8 r.J,.int .u8 r.lo.tag,.int .u32 r.lo.to,.int .u8 r.hi.tag,.int .u32 r.hi.to]] j fun e w'=>e=.returned (.tuple #[.int .u32 id,.int .u8 s])∧ae F j w'∧R j w') :
  Calls Tryz.prog 186 #[.pointer (some ⟨A,0,none⟩),.agg #[.int .u8 r.ad,.int .u8 r.I,.int .u8 r.J,.int .u8 r.lo.tag,.int .u32 r.lo.to,.int .u8 r.hi.tag,.int .u32 r.hi.to]] w fun e w'=>e=.returned (.tuple #[.agg #[.int .u8 0,.int .u32 0],.int .u8 s]) ∧
   ∃j t,aa w j∧ae F j t∧R j t∧ae (fun k=>w.heap.size≤k∧k<j.heap.size) t w':=by
 have J:=Lib.hid E
 have j:=Lib.hid I
 clear E I
 have O:¬F w.heap.size:=fun h=>by have:=j.out _ h;omega
 have z:¬F (w.heap.size+1):=fun h=>by have:=j.out _ h;omega
 go_enter Tryz.func186,Tryz.ntmps186
 go_wp2_with (go_at_call 80;refine(J.out _ (by(exact kp))).mono ?_;rintro e w1 ⟨rfl,q,K⟩;have L:=q.size;simp only[World.size_alloc]at L;have j:=q.cell (a:=⟨w.heap.size,1,none⟩) O (v:=.int .u8 r.I) (by simp);have S:=q.cell (a:=⟨w.heap.size+1,0,none⟩) z (v:=.int .u8 0) (by simp);have T:=q.cell (a:=⟨w.heap.size+1,1,none⟩) z (v:=.int .u32 0) (by simp);have j:=fun o:Nat=>q.frozen (a:=⟨w.heap.size+1,o,none⟩) (by simp) z (by simp);have N:w.heap.size+1<w1.heap.size:=(by omega);have j:w.heap.size<w1.heap.size:=(by omega))
 refine bodyPost_ret (v:=.tuple #[.agg #[.int .u8 0,.int .u32 0],.int .u8 s]) (by simp[results,Tryz.results186,go_sem,N,S,T]) rfl ⟨rfl,_,w1,?_,q,K,?_⟩
 ·(exact kp)
 ·(have j:(w.alloc (.cells #[.int .u8 r.ad,.int .u8 r.I,.int .u8 r.J,.int .u8 r.lo.tag,.int .u32 r.lo.to,.int .u8 r.hi.tag,.int .u32 r.hi.to] 134)).heap.size=w.heap.size+1:=by simp);(try simp only[World.size_alloc]);(repeat (first|with_reducible exact ae.refl _ _|refine ae.setCell ?_ (Or.inl (by dsimp only;omega)) _|with_reducible refine ae.drewN ?_ _|with_reducible refine ae.drew ?_|with_reducible refine ae.alloc ?_ _))

theorem CO {F:Nat→Prop}(z:Nat)(r:Rec)(id:Int)(w:World)(T:z<w.heap.size)(E:∀k,F k→k<w.heap.size)(R:World→World→Prop)
  (A:∀j,aa w j→Calls Tryz.prog 80 #[.pointer (some ⟨z,0,none⟩),.agg #[.int .u8 r.ad,.int .u8 r.I,.int .u8 r.J,.int .u8 r.lo.tag,.int .u32 r.lo.to,.int .u8 r.hi.tag,.int .u32 r.hi.to]] j fun e w'=>e=.returned (.tuple #[.int .u32 id,.int .u8 0])∧ae F j w'∧R j w') :
  Calls Tryz.prog 187 #[.pointer (some ⟨z,0,none⟩),.agg #[.int .u8 r.ad,.int .u8 r.I,.int .u8 r.J,.int .u8 r.lo.tag,.int .u32 r.lo.to,.int .u8 r.hi.tag,.int .u32 r.hi.to]] w fun e w'=>e=.returned (.tuple #[.agg #[.int .u8 0,.int .u32 id],.int .u8 0]) ∧
   ∃j s,aa w j∧ae F j s∧R j s∧ae (fun k=>w.heap.size≤k∧k<j.heap.size) s w':=by
 have I:=Lib.hid A
 have j:=Lib.hid E
 clear A E
 have N:¬F w.heap.size:=fun h=>by have:=j.out _ h;omega
 have t:¬F (w.heap.size+1):=fun h=>by have:=j.out _ h;omega
 go_enter Tryz.func187,Tryz.ntmps187
 go_wp2_with (go_at_call 80;refine(I.out _ (by(exact kp))).mono ?_;rintro e w1 ⟨rfl,q,J⟩;have K:=q.size;simp only[World.size_alloc]at K;have j:=q.cell (a:=⟨w.heap.size,1,none⟩) N (v:=.int .u8 r.I) (by simp);have O:=q.cell (a:=⟨w.heap.size+1,0,none⟩) t (v:=.int .u8 0) (by simp);have S:=q.cell (a:=⟨w.heap.size+1,1,none⟩) t (v:=.int .u32 0) (by simp);have j:=fun o:Nat=>q.frozen (a:=⟨w.heap.size+1,o,none⟩) (by simp) t (by simp);have L:w.heap.size+1<w1.heap.size:=(by omega);have j:w.heap.size<w1.heap.size:=(by omega))
 refine bodyPost_ret (v:=.tuple #[.agg #[.int .u8 0,.int .u32 id],.int .u8 0]) (by simp[results,Tryz.results187,go_sem,L,O,S]) rfl ⟨rfl,_,w1,?_,q,J,?_⟩
 ·(exact kp)
 ·(have j:(w.alloc (.cells #[.int .u8 r.ad,.int .u8 r.I,.int .u8 r.J,.int .u8 r.lo.tag,.int .u32 r.lo.to,.int .u8 r.hi.tag,.int .u32 r.hi.to] 134)).heap.size=w.heap.size+1:=by simp);(try simp only[World.size_alloc]);(repeat (first|with_reducible exact ae.refl _ _|refine ae.setCell ?_ (Or.inl (by dsimp only;omega)) _|with_reducible refine ae.drewN ?_ _|with_reducible refine ae.drew ?_|with_reducible refine ae.alloc ?_ _))

theorem CN {F:Nat→Prop}(A:Nat)(r:Rec)(id s:Int)(U:s≠0)(w:World)(W:A<w.heap.size)(I:∀k,F k→k<w.heap.size)(R:World→World→Prop)
  (E:∀j,aa w j→Calls Tryz.prog 80 #[.pointer (some ⟨A,0,none⟩),.agg #[.int .u8 r.ad,.int .u8 r.I,.int .u8 r.J,.int .u8 r.lo.tag,.int .u32 r.lo.to,.int .u8 r.hi.tag,.int .u32 r.hi.to]] j fun e w'=>e=.returned (.tuple #[.int .u32 id,.int .u8 s])∧ae F j w'∧R j w') :
  Calls Tryz.prog 187 #[.pointer (some ⟨A,0,none⟩),.agg #[.int .u8 r.ad,.int .u8 r.I,.int .u8 r.J,.int .u8 r.lo.tag,.int .u32 r.lo.to,.int .u8 r.hi.tag,.int .u32 r.hi.to]] w fun e w'=>e=.returned (.tuple #[.agg #[.int .u8 0,.int .u32 0],.int .u8 s]) ∧
   ∃j t,aa w j∧ae F j t∧R j t∧ae (fun k=>w.heap.size≤k∧k<j.heap.size) t w':=by
 have J:=Lib.hid E
 have j:=Lib.hid I
 clear E I
 have O:¬F w.heap.size:=fun h=>by have:=j.out _ h;omega
 have z:¬F (w.heap.size+1):=fun h=>by have:=j.out _ h;omega
 go_enter Tryz.func187,Tryz.ntmps187
 go_wp2_with (go_at_call 80;refine(J.out _ (by(exact kp))).mono ?_;rintro e w1 ⟨rfl,q,K⟩;have L:=q.size;simp only[World.size_alloc]at L;have j:=q.cell (a:=⟨w.heap.size,1,none⟩) O (v:=.int .u8 r.I) (by simp);have S:=q.cell (a:=⟨w.heap.size+1,0,none⟩) z (v:=.int .u8 0) (by simp);have T:=q.cell (a:=⟨w.heap.size+1,1,none⟩) z (v:=.int .u32 0) (by simp);have j:=fun o:Nat=>q.frozen (a:=⟨w.heap.size+1,o,none⟩) (by simp) z (by simp);have N:w.heap.size+1<w1.heap.size:=(by omega);have j:w.heap.size<w1.heap.size:=(by omega))
 refine bodyPost_ret (v:=.tuple #[.agg #[.int .u8 0,.int .u32 0],.int .u8 s]) (by simp[results,Tryz.results187,go_sem,N,S,T]) rfl ⟨rfl,_,w1,?_,q,K,?_⟩
 ·(exact kp)
 ·(have j:(w.alloc (.cells #[.int .u8 r.ad,.int .u8 r.I,.int .u8 r.J,.int .u8 r.lo.tag,.int .u32 r.lo.to,.int .u8 r.hi.tag,.int .u32 r.hi.to] 134)).heap.size=w.heap.size+1:=by simp);(try simp only[World.size_alloc]);(repeat (first|with_reducible exact ae.refl _ _|refine ae.setCell ?_ (Or.inl (by dsimp only;omega)) _|with_reducible refine ae.drewN ?_ _|with_reducible refine ae.drew ?_|with_reducible refine ae.alloc ?_ _))

end Go.Proofs.YtafkamlhimkbmaaGreat
