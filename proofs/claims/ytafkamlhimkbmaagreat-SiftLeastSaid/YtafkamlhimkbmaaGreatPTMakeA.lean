/-
  The six 'found' (printed by wip/mk_found.py).
-/
import Derived.Test.YtafkamlhimkbmaaGreatPSFindA
namespace Go.Proofs.YtafkamlhimkbmaaGreat
set_option maxRecDepth 1000000
set_option maxHeartbeats 8000000
set_option linter.unusedSimpArgs false
set_option linter.unusedVariables false
open Go.RowKit

theorem ag.mono {F G:Nat→Prop}{w:World}{q:Nat}{M:St}(h:ag F w q M)(j:∀k,F k→G k)(U:∀k,G k→k<w.heap.size):ag G w q M:=by
 obtain⟨⟨E,ib,ts,s,t,I,J,K,L,N,O,S,T⟩,z,q,A⟩:=h;exact⟨⟨E,ib,ts,s,t,I,J,K,L,N,fun k q=>j k (O k q),fun k q=>j k (S k q),T⟩,j _ z,U,A⟩

theorem rR {F:Nat→Prop}{w q E A:World}(I:∀k,F k→k<w.heap.size)(s:aa w q)(t:ae F q E)(z:ae (fun k=>w.heap.size≤k∧k<q.heap.size) E A) :
  ae F w A∧(∀k,ao F q E k→ao F w A k)∧(∀k,ao F w A k→k<A.heap.size)∧∀k,ao F q E k→¬(w.heap.size≤k∧k<q.heap.size):=by
 have q:=s.size
 have q:=t.size
 have q:=z.size
 refine⟨⟨z.os.trans (t.os.trans s.os),z.tape.trans (t.tape.trans s.tape),z.output.trans (t.output.trans s.output),by omega,fun k j q=>?_⟩,?_,?_,?_⟩
 ·rw[z.block k (by omega) (by omega),t.block k (by omega) q,s.block k j]
 ·intro k j;rcases j with j|j;·exact .inl j
  ·exact .inr ⟨by omega,by omega⟩
 ·intro k j;rcases j with j|j;·have:=I k j;omega
  ·exact j.2
 ·intro k j q;rcases j with j|j;·have:=I k j;omega
  ·omega

theorem ag.after {F:Nat→Prop}{w j q s:World}{z:Nat}{M:St}(J:∀k,F k→k<w.heap.size)(A:aa w j)(E:ae F j q)(I:ag (ao F j q) q z M)(t:ae (fun k=>w.heap.size≤k∧k<j.heap.size) q s) :
  ae F w s∧ag (ao F w s) s z M:=by
 obtain⟨a,b,c,d⟩:=rR J A E t
 exact⟨a,(I.a4 t d).mono b c⟩

theorem Be {F:Nat→Prop}(A:Nat)(r:Rec)(id:Int)(w:World)(U:A<w.heap.size)(I:∀k,F k→k<w.heap.size)(R:World→World→Prop)
  (E:∀j,aa w j→Calls Tryz.prog 80 #[.pointer (some ⟨A,0,none⟩),.agg #[.int .u8 r.ad,.int .u8 r.I,.int .u8 r.J,.int .u8 r.lo.tag,.int .u32 r.lo.to,.int .u8 r.hi.tag,.int .u32 r.hi.to]] j fun e s=>e=.returned (.tuple #[.int .u32 id,.int .u8 0])∧ae F j s∧R j s) :
  Calls Tryz.prog 190 #[.pointer (some ⟨A,0,none⟩),.agg #[.int .u8 r.ad,.int .u8 r.I,.int .u8 r.J,.int .u8 r.lo.tag,.int .u32 r.lo.to,.int .u8 r.hi.tag,.int .u32 r.hi.to]] w fun e s=>e=.returned (.tuple #[.agg #[.int .u8 r.I,.int .u32 id],.int .u8 0]) ∧
   ∃j t,aa w j∧ae F j t∧R j t∧ae (fun k=>w.heap.size≤k∧k<j.heap.size) t s:=by
 have J:=Lib.hid E
 have j:=Lib.hid I
 clear E I
 have O:¬F w.heap.size:=fun h=>by have:=j.out _ h;omega
 have z:¬F (w.heap.size+1):=fun h=>by have:=j.out _ h;omega
 go_enter Tryz.func190,Tryz.ntmps190
 go_wp2_with (go_at_call 80;refine(J.out _ (by(exact kp))).mono ?_;rintro e w1 ⟨rfl,q,K⟩;have L:=q.size;simp only[World.size_alloc]at L;have j:=q.cell (a:=⟨w.heap.size,1,none⟩) O (v:=.int .u8 r.I) (by simp);have S:=q.cell (a:=⟨w.heap.size+1,0,none⟩) z (v:=.int .u8 0) (by simp);have T:=q.cell (a:=⟨w.heap.size+1,1,none⟩) z (v:=.int .u32 0) (by simp);have j:=fun o:Nat=>q.frozen (a:=⟨w.heap.size+1,o,none⟩) (by simp) z (by simp);have N:w.heap.size+1<w1.heap.size:=(by omega);have j:w.heap.size<w1.heap.size:=(by omega))
 refine bodyPost_ret (v:=.tuple #[.agg #[.int .u8 r.I,.int .u32 id],.int .u8 0]) (by simp[results,Tryz.results190,go_sem,N,S,T]) rfl ⟨rfl,_,w1,?_,q,K,?_⟩
 ·(exact kp)
 ·(have j:(w.alloc (.cells #[.int .u8 r.ad,.int .u8 r.I,.int .u8 r.J,.int .u8 r.lo.tag,.int .u32 r.lo.to,.int .u8 r.hi.tag,.int .u32 r.hi.to] 134)).heap.size=w.heap.size+1:=by simp);(try simp only[World.size_alloc]);(repeat (first|with_reducible exact ae.refl _ _|refine ae.setCell ?_ (Or.inl (by dsimp only;omega)) _|with_reducible refine ae.drewN ?_ _|with_reducible refine ae.drew ?_|with_reducible refine ae.alloc ?_ _))

theorem Bd {F:Nat→Prop}(E:Nat)(r:Rec)(id s:Int)(W:s≠0)(w:World)(X:E<w.heap.size)(J:∀k,F k→k<w.heap.size)(R:World→World→Prop)
  (I:∀j,aa w j→Calls Tryz.prog 80 #[.pointer (some ⟨E,0,none⟩),.agg #[.int .u8 r.ad,.int .u8 r.I,.int .u8 r.J,.int .u8 r.lo.tag,.int .u32 r.lo.to,.int .u8 r.hi.tag,.int .u32 r.hi.to]] j fun e t=>e=.returned (.tuple #[.int .u32 id,.int .u8 s])∧ae F j t∧R j t) :
  Calls Tryz.prog 190 #[.pointer (some ⟨E,0,none⟩),.agg #[.int .u8 r.ad,.int .u8 r.I,.int .u8 r.J,.int .u8 r.lo.tag,.int .u32 r.lo.to,.int .u8 r.hi.tag,.int .u32 r.hi.to]] w fun e t=>e=.returned (.tuple #[.agg #[.int .u8 0,.int .u32 0],.int .u8 s]) ∧
   ∃j z,aa w j∧ae F j z∧R j z∧ae (fun k=>w.heap.size≤k∧k<j.heap.size) z t:=by
 have K:=Lib.hid I
 have j:=Lib.hid J
 clear I J
 have S:¬F w.heap.size:=fun h=>by have:=j.out _ h;omega
 have A:¬F (w.heap.size+1):=fun h=>by have:=j.out _ h;omega
 go_enter Tryz.func190,Tryz.ntmps190
 go_wp2_with (go_at_call 80;refine(K.out _ (by(exact kp))).mono ?_;rintro e w1 ⟨rfl,q,L⟩;have N:=q.size;simp only[World.size_alloc]at N;have j:=q.cell (a:=⟨w.heap.size,1,none⟩) S (v:=.int .u8 r.I) (by simp);have T:=q.cell (a:=⟨w.heap.size+1,0,none⟩) A (v:=.int .u8 0) (by simp);have U:=q.cell (a:=⟨w.heap.size+1,1,none⟩) A (v:=.int .u32 0) (by simp);have j:=fun o:Nat=>q.frozen (a:=⟨w.heap.size+1,o,none⟩) (by simp) A (by simp);have O:w.heap.size+1<w1.heap.size:=(by omega);have j:w.heap.size<w1.heap.size:=(by omega))
 refine bodyPost_ret (v:=.tuple #[.agg #[.int .u8 0,.int .u32 0],.int .u8 s]) (by simp[results,Tryz.results190,go_sem,O,T,U]) rfl ⟨rfl,_,w1,?_,q,L,?_⟩
 ·(exact kp)
 ·(have j:(w.alloc (.cells #[.int .u8 r.ad,.int .u8 r.I,.int .u8 r.J,.int .u8 r.lo.tag,.int .u32 r.lo.to,.int .u8 r.hi.tag,.int .u32 r.hi.to] 134)).heap.size=w.heap.size+1:=by simp);(try simp only[World.size_alloc]);(repeat (first|with_reducible exact ae.refl _ _|refine ae.setCell ?_ (Or.inl (by dsimp only;omega)) _|with_reducible refine ae.drewN ?_ _|with_reducible refine ae.drew ?_|with_reducible refine ae.alloc ?_ _))

theorem tG {F:Nat→Prop}(A:Nat)(r:Rec)(id:Int)(w:World)(U:A<w.heap.size)(I:∀k,F k→k<w.heap.size)(R:World→World→Prop)
  (E:∀j,aa w j→Calls Tryz.prog 80 #[.pointer (some ⟨A,0,none⟩),.agg #[.int .u8 r.ad,.int .u8 r.I,.int .u8 r.J,.int .u8 r.lo.tag,.int .u32 r.lo.to,.int .u8 r.hi.tag,.int .u32 r.hi.to]] j fun e s=>e=.returned (.tuple #[.int .u32 id,.int .u8 0])∧ae F j s∧R j s) :
  Calls Tryz.prog 188 #[.pointer (some ⟨A,0,none⟩),.agg #[.int .u8 r.ad,.int .u8 r.I,.int .u8 r.J,.int .u8 r.lo.tag,.int .u32 r.lo.to,.int .u8 r.hi.tag,.int .u32 r.hi.to]] w fun e s=>e=.returned (.tuple #[.agg #[.int .u8 0,.int .u32 id],.int .u8 0]) ∧
   ∃j t,aa w j∧ae F j t∧R j t∧ae (fun k=>w.heap.size≤k∧k<j.heap.size) t s:=by
 have J:=Lib.hid E
 have j:=Lib.hid I
 clear E I
 have O:¬F w.heap.size:=fun h=>by have:=j.out _ h;omega
 have z:¬F (w.heap.size+1):=fun h=>by have:=j.out _ h;omega
 go_enter Tryz.func188,Tryz.ntmps188
 go_wp2_with (go_at_call 80;refine(J.out _ (by(exact kp))).mono ?_;rintro e w1 ⟨rfl,q,K⟩;have L:=q.size;simp only[World.size_alloc]at L;have j:=q.cell (a:=⟨w.heap.size,1,none⟩) O (v:=.int .u8 r.I) (by simp);have S:=q.cell (a:=⟨w.heap.size+1,0,none⟩) z (v:=.int .u8 0) (by simp);have T:=q.cell (a:=⟨w.heap.size+1,1,none⟩) z (v:=.int .u32 0) (by simp);have j:=fun o:Nat=>q.frozen (a:=⟨w.heap.size+1,o,none⟩) (by simp) z (by simp);have N:w.heap.size+1<w1.heap.size:=(by omega);have j:w.heap.size<w1.heap.size:=(by omega))
 refine bodyPost_ret (v:=.tuple #[.agg #[.int .u8 0,.int .u32 id],.int .u8 0]) (by simp[results,Tryz.results188,go_sem,N,S,T]) rfl ⟨rfl,_,w1,?_,q,K,?_⟩
 ·(exact kp)
 ·(have j:(w.alloc (.cells #[.int .u8 r.ad,.int .u8 r.I,.int .u8 r.J,.int .u8 r.lo.tag,.int .u32 r.lo.to,.int .u8 r.hi.tag,.int .u32 r.hi.to] 134)).heap.size=w.heap.size+1:=by simp);(try simp only[World.size_alloc]);(repeat (first|with_reducible exact ae.refl _ _|refine ae.setCell ?_ (Or.inl (by dsimp only;omega)) _|with_reducible refine ae.drewN ?_ _|with_reducible refine ae.drew ?_|with_reducible refine ae.alloc ?_ _))

theorem tF {F:Nat→Prop}(E:Nat)(r:Rec)(id s:Int)(W:s≠0)(w:World)(X:E<w.heap.size)(J:∀k,F k→k<w.heap.size)(R:World→World→Prop)
  (I:∀j,aa w j→Calls Tryz.prog 80 #[.pointer (some ⟨E,0,none⟩),.agg #[.int .u8 r.ad,.int .u8 r.I,.int .u8 r.J,.int .u8 r.lo.tag,.int .u32 r.lo.to,.int .u8 r.hi.tag,.int .u32 r.hi.to]] j fun e t=>e=.returned (.tuple #[.int .u32 id,.int .u8 s])∧ae F j t∧R j t) :
  Calls Tryz.prog 188 #[.pointer (some ⟨E,0,none⟩),.agg #[.int .u8 r.ad,.int .u8 r.I,.int .u8 r.J,.int .u8 r.lo.tag,.int .u32 r.lo.to,.int .u8 r.hi.tag,.int .u32 r.hi.to]] w fun e t=>e=.returned (.tuple #[.agg #[.int .u8 0,.int .u32 0],.int .u8 s]) ∧
   ∃j z,aa w j∧ae F j z∧R j z∧ae (fun k=>w.heap.size≤k∧k<j.heap.size) z t:=by
 have K:=Lib.hid I
 have j:=Lib.hid J
 clear I J
 have S:¬F w.heap.size:=fun h=>by have:=j.out _ h;omega
 have A:¬F (w.heap.size+1):=fun h=>by have:=j.out _ h;omega
 go_enter Tryz.func188,Tryz.ntmps188
 go_wp2_with (go_at_call 80;refine(K.out _ (by(exact kp))).mono ?_;rintro e w1 ⟨rfl,q,L⟩;have N:=q.size;simp only[World.size_alloc]at N;have j:=q.cell (a:=⟨w.heap.size,1,none⟩) S (v:=.int .u8 r.I) (by simp);have T:=q.cell (a:=⟨w.heap.size+1,0,none⟩) A (v:=.int .u8 0) (by simp);have U:=q.cell (a:=⟨w.heap.size+1,1,none⟩) A (v:=.int .u32 0) (by simp);have j:=fun o:Nat=>q.frozen (a:=⟨w.heap.size+1,o,none⟩) (by simp) A (by simp);have O:w.heap.size+1<w1.heap.size:=(by omega);have j:w.heap.size<w1.heap.size:=(by omega))
 refine bodyPost_ret (v:=.tuple #[.agg #[.int .u8 0,.int .u32 0],.int .u8 s]) (by simp[results,Tryz.results188,go_sem,O,T,U]) rfl ⟨rfl,_,w1,?_,q,L,?_⟩
 ·(exact kp)
 ·(have j:(w.alloc (.cells #[.int .u8 r.ad,.int .u8 r.I,.int .u8 r.J,.int .u8 r.lo.tag,.int .u32 r.lo.to,.int .u8 r.hi.tag,.int .u32 r.hi.to] 134)).heap.size=w.heap.size+1:=by simp);(try simp only[World.size_alloc]);(repeat (first|with_reducible exact ae.refl _ _|refine ae.setCell ?_ (Or.inl (by dsimp only;omega)) _|with_reducible refine ae.drewN ?_ _|with_reducible refine ae.drew ?_|with_reducible refine ae.alloc ?_ _))

theorem Cx {F:Nat→Prop}(A:Nat)(r:Rec)(id:Int)(w:World)(U:A<w.heap.size)(I:∀k,F k→k<w.heap.size)(R:World→World→Prop)
  (E:∀j,aa w j→Calls Tryz.prog 80 #[.pointer (some ⟨A,0,none⟩),.agg #[.int .u8 r.ad,.int .u8 r.I,.int .u8 r.J,.int .u8 r.lo.tag,.int .u32 r.lo.to,.int .u8 r.hi.tag,.int .u32 r.hi.to]] j fun e s=>e=.returned (.tuple #[.int .u32 id,.int .u8 0])∧ae F j s∧R j s) :
  Calls Tryz.prog 189 #[.pointer (some ⟨A,0,none⟩),.agg #[.int .u8 r.ad,.int .u8 r.I,.int .u8 r.J,.int .u8 r.lo.tag,.int .u32 r.lo.to,.int .u8 r.hi.tag,.int .u32 r.hi.to]] w fun e s=>e=.returned (.tuple #[.agg #[.int .u8 0,.int .u32 id],.int .u8 0]) ∧
   ∃j t,aa w j∧ae F j t∧R j t∧ae (fun k=>w.heap.size≤k∧k<j.heap.size) t s:=by
 have J:=Lib.hid E
 have j:=Lib.hid I
 clear E I
 have O:¬F w.heap.size:=fun h=>by have:=j.out _ h;omega
 have z:¬F (w.heap.size+1):=fun h=>by have:=j.out _ h;omega
 go_enter Tryz.func189,Tryz.ntmps189
 go_wp2_with (go_at_call 80;refine(J.out _ (by(exact kp))).mono ?_;rintro e w1 ⟨rfl,q,K⟩;have L:=q.size;simp only[World.size_alloc]at L;have j:=q.cell (a:=⟨w.heap.size,1,none⟩) O (v:=.int .u8 r.I) (by simp);have S:=q.cell (a:=⟨w.heap.size+1,0,none⟩) z (v:=.int .u8 0) (by simp);have T:=q.cell (a:=⟨w.heap.size+1,1,none⟩) z (v:=.int .u32 0) (by simp);have j:=fun o:Nat=>q.frozen (a:=⟨w.heap.size+1,o,none⟩) (by simp) z (by simp);have N:w.heap.size+1<w1.heap.size:=(by omega);have j:w.heap.size<w1.heap.size:=(by omega))
 refine bodyPost_ret (v:=.tuple #[.agg #[.int .u8 0,.int .u32 id],.int .u8 0]) (by simp[results,Tryz.results189,go_sem,N,S,T]) rfl ⟨rfl,_,w1,?_,q,K,?_⟩
 ·(exact kp)
 ·(have j:(w.alloc (.cells #[.int .u8 r.ad,.int .u8 r.I,.int .u8 r.J,.int .u8 r.lo.tag,.int .u32 r.lo.to,.int .u8 r.hi.tag,.int .u32 r.hi.to] 134)).heap.size=w.heap.size+1:=by simp);(try simp only[World.size_alloc]);(repeat (first|with_reducible exact ae.refl _ _|refine ae.setCell ?_ (Or.inl (by dsimp only;omega)) _|with_reducible refine ae.drewN ?_ _|with_reducible refine ae.drew ?_|with_reducible refine ae.alloc ?_ _))

theorem Cw {F:Nat→Prop}(E:Nat)(r:Rec)(id s:Int)(W:s≠0)(w:World)(X:E<w.heap.size)(J:∀k,F k→k<w.heap.size)(R:World→World→Prop)
  (I:∀j,aa w j→Calls Tryz.prog 80 #[.pointer (some ⟨E,0,none⟩),.agg #[.int .u8 r.ad,.int .u8 r.I,.int .u8 r.J,.int .u8 r.lo.tag,.int .u32 r.lo.to,.int .u8 r.hi.tag,.int .u32 r.hi.to]] j fun e t=>e=.returned (.tuple #[.int .u32 id,.int .u8 s])∧ae F j t∧R j t) :
  Calls Tryz.prog 189 #[.pointer (some ⟨E,0,none⟩),.agg #[.int .u8 r.ad,.int .u8 r.I,.int .u8 r.J,.int .u8 r.lo.tag,.int .u32 r.lo.to,.int .u8 r.hi.tag,.int .u32 r.hi.to]] w fun e t=>e=.returned (.tuple #[.agg #[.int .u8 0,.int .u32 0],.int .u8 s]) ∧
   ∃j z,aa w j∧ae F j z∧R j z∧ae (fun k=>w.heap.size≤k∧k<j.heap.size) z t:=by
 have K:=Lib.hid I
 have j:=Lib.hid J
 clear I J
 have S:¬F w.heap.size:=fun h=>by have:=j.out _ h;omega
 have A:¬F (w.heap.size+1):=fun h=>by have:=j.out _ h;omega
 go_enter Tryz.func189,Tryz.ntmps189
 go_wp2_with (go_at_call 80;refine(K.out _ (by(exact kp))).mono ?_;rintro e w1 ⟨rfl,q,L⟩;have N:=q.size;simp only[World.size_alloc]at N;have j:=q.cell (a:=⟨w.heap.size,1,none⟩) S (v:=.int .u8 r.I) (by simp);have T:=q.cell (a:=⟨w.heap.size+1,0,none⟩) A (v:=.int .u8 0) (by simp);have U:=q.cell (a:=⟨w.heap.size+1,1,none⟩) A (v:=.int .u32 0) (by simp);have j:=fun o:Nat=>q.frozen (a:=⟨w.heap.size+1,o,none⟩) (by simp) A (by simp);have O:w.heap.size+1<w1.heap.size:=(by omega);have j:w.heap.size<w1.heap.size:=(by omega))
 refine bodyPost_ret (v:=.tuple #[.agg #[.int .u8 0,.int .u32 0],.int .u8 s]) (by simp[results,Tryz.results189,go_sem,O,T,U]) rfl ⟨rfl,_,w1,?_,q,L,?_⟩
 ·(exact kp)
 ·(have j:(w.alloc (.cells #[.int .u8 r.ad,.int .u8 r.I,.int .u8 r.J,.int .u8 r.lo.tag,.int .u32 r.lo.to,.int .u8 r.hi.tag,.int .u32 r.hi.to] 134)).heap.size=w.heap.size+1:=by simp);(try simp only[World.size_alloc]);(repeat (first|with_reducible exact ae.refl _ _|refine ae.setCell ?_ (Or.inl (by dsimp only;omega)) _|with_reducible refine ae.drewN ?_ _|with_reducible refine ae.drew ?_|with_reducible refine ae.alloc ?_ _))

theorem uD (x y:Edge)(h:x=y)(j:World):(binOp .eql 52 (.agg #[.int .u8 x.tag,.int .u32 x.to]) (.agg #[.int .u8 y.tag,.int .u32 y.to])).run Tryz.prog j=.ok (.bool true) j:=by rw[kU];simp[h]

theorem lP (x y:Edge)(h:x≠y)(j:World):(binOp .eql 52 (.agg #[.int .u8 x.tag,.int .u32 x.to]) (.agg #[.int .u8 y.tag,.int .u32 y.to])).run Tryz.prog j=.ok (.bool false) j:=by rw[kU];simp[h]

theorem Bk (j:Nat)(l n:Int)(lo hi:Edge)(w:World)(E:n≤16)
  (I:j<w.heap.size)
  (t:∀s,aa w s→Calls Tryz.prog 48 #[.pointer (some ⟨j,0,none⟩)] s fun e q=>e=.returned (.int .i64 n)∧s=q)
  (A:l<0)
  : Calls Tryz.prog 125 #[.pointer (some ⟨j,0,none⟩),.int .i64 l,.agg #[.int .u8 lo.tag,.int .u32 lo.to],.agg #[.int .u8 hi.tag,.int .u32 hi.to]] w fun e q=>e=.returned (.tuple #[.agg #[.int .u8 0,.int .u32 0],.int .u8 3])∧aa w q:=by
 have s:j<w.heap.size+1:=by omega
 have s:j<w.heap.size+1+1:=by omega
 have z:=Lib.hid t
 clear t
 go_enter Tryz.func125,Tryz.ntmps125
 go_wp2_with (first|(go_at_call 48;refine(z.out _ (by(exact kp))).mono ?_;rintro e q ⟨rfl,rfl⟩)|fail)
 all_goals refine bodyPost_ret (v:=.tuple #[.agg #[.int .u8 0,.int .u32 0],.int .u8 3]) (by simp[results,Tryz.results125,go_sem]) rfl ⟨rfl,by(exact kp)⟩

theorem Bf (j:Nat)(l n:Int)(lo hi:Edge)(w:World)(I:n≤16)
  (J:j<w.heap.size)
  (t:∀s,aa w s→Calls Tryz.prog 48 #[.pointer (some ⟨j,0,none⟩)] s fun e q=>e=.returned (.int .i64 n)∧s=q)
  (A:0≤l) (E:n≤l)
  : Calls Tryz.prog 125 #[.pointer (some ⟨j,0,none⟩),.int .i64 l,.agg #[.int .u8 lo.tag,.int .u32 lo.to],.agg #[.int .u8 hi.tag,.int .u32 hi.to]] w fun e q=>e=.returned (.tuple #[.agg #[.int .u8 0,.int .u32 0],.int .u8 3])∧aa w q:=by
 have s:j<w.heap.size+1:=by omega
 have s:j<w.heap.size+1+1:=by omega
 have z:=Lib.hid t
 clear t
 go_enter Tryz.func125,Tryz.ntmps125
 go_wp2_with (first|(go_at_call 48;refine(z.out _ (by(exact kp))).mono ?_;rintro e q ⟨rfl,rfl⟩)|fail)
 all_goals refine bodyPost_ret (v:=.tuple #[.agg #[.int .u8 0,.int .u32 0],.int .u8 3]) (by simp[results,Tryz.results125,go_sem]) rfl ⟨rfl,by(exact kp)⟩

theorem Bj (s:Nat)(l n:Int)(lo hi:Edge)(w:World)(T:n≤16)
  (U:s<w.heap.size)
  (A:∀q,aa w q→Calls Tryz.prog 48 #[.pointer (some ⟨s,0,none⟩)] q fun e t=>e=.returned (.int .i64 n)∧q=t)
  (O:0≤l) (S:l<n)
  (z:∀q,aa w q→Calls Tryz.prog 134 #[.pointer (some ⟨s,0,none⟩),.int .u8 5,.agg #[.int .u8 lo.tag,.int .u32 lo.to],.int .i64 (l+1)] q fun e t=>e=.returned (.bool false)∧aa q t)
  : Calls Tryz.prog 125 #[.pointer (some ⟨s,0,none⟩),.int .i64 l,.agg #[.int .u8 lo.tag,.int .u32 lo.to],.agg #[.int .u8 hi.tag,.int .u32 hi.to]] w fun e t=>e=.returned (.tuple #[.agg #[.int .u8 0,.int .u32 0],.int .u8 1])∧aa w t:=by
 have q:s<w.heap.size+1:=by omega
 have q:s<w.heap.size+1+1:=by omega
 have I:=Lib.hid A
 clear A
 have E:=Lib.hid z
 clear z
 go_enter Tryz.func125,Tryz.ntmps125
 go_wp2_with (first|(go_at_call 48;refine(I.out _ (by(exact kp))).mono ?_;rintro e t ⟨rfl,rfl⟩)|fail)
 (go_at_call 134;refine(E.out _ (by(exact kp))).mono ?_;rintro e w1 ⟨rfl,j⟩;have J:=j.size;simp only[World.size_alloc]at J;have q:w.heap.size<w1.heap.size:=(by omega);have q:w.heap.size+1<w1.heap.size:=(by omega);have K:w.heap.size+2<w1.heap.size:=(by omega);have q:=j.cell (a:=⟨w.heap.size,0,none⟩) (v:=.int .u8 lo.tag) (by simp[go_sem]);have q:=j.cell (a:=⟨w.heap.size,1,none⟩) (v:=.int .u32 lo.to) (by simp[go_sem]);have q:=j.cell (a:=⟨w.heap.size+1,0,none⟩) (v:=.int .u8 hi.tag) (by simp[go_sem]);have q:=j.cell (a:=⟨w.heap.size+1,1,none⟩) (v:=.int .u32 hi.to) (by simp[go_sem]);have L:=j.cell (a:=⟨w.heap.size+2,0,none⟩) (v:=.int .u8 0) (by simp[go_sem]);have N:=j.cell (a:=⟨w.heap.size+2,1,none⟩) (v:=.int .u32 0) (by simp[go_sem]);have q:=fun o:Nat=>(j.av (fun _=>False)).frozen (a:=⟨w.heap.size+2,o,none⟩) (by simp[go_sem]) (fun h=>h) (by simp[go_sem]);have j:aa w w1:=(by(exact kp)))
 go_wp2_with fail
 all_goals refine bodyPost_ret (v:=.tuple #[.agg #[.int .u8 0,.int .u32 0],.int .u8 1]) (by simp[results,Tryz.results125,go_sem,K,L,N]) rfl ⟨rfl,by(exact kp)⟩

theorem Bi (t:Nat)(l n:Int)(lo hi:Edge)(w:World)(aw:n≤16)
  (a1:t<w.heap.size)
  (K:∀q,aa w q→Calls Tryz.prog 48 #[.pointer (some ⟨t,0,none⟩)] q fun e s=>e=.returned (.int .i64 n)∧q=s)
  (am:0≤l) (av:l<n)
  (I:∀q,aa w q→Calls Tryz.prog 134 #[.pointer (some ⟨t,0,none⟩),.int .u8 5,.agg #[.int .u8 lo.tag,.int .u32 lo.to],.int .i64 (l+1)] q fun e s=>e=.returned (.bool true)∧aa q s)
  (E:∀q,aa w q→Calls Tryz.prog 134 #[.pointer (some ⟨t,0,none⟩),.int .u8 5,.agg #[.int .u8 hi.tag,.int .u32 hi.to],.int .i64 (l+1)] q fun e s=>e=.returned (.bool false)∧aa q s)
  : Calls Tryz.prog 125 #[.pointer (some ⟨t,0,none⟩),.int .i64 l,.agg #[.int .u8 lo.tag,.int .u32 lo.to],.agg #[.int .u8 hi.tag,.int .u32 hi.to]] w fun e s=>e=.returned (.tuple #[.agg #[.int .u8 0,.int .u32 0],.int .u8 1])∧aa w s:=by
 have q:t<w.heap.size+1:=by omega
 have q:t<w.heap.size+1+1:=by omega
 have Y:=Lib.hid K
 clear K
 have X:=Lib.hid I
 clear I
 have W:=Lib.hid E
 clear E
 go_enter Tryz.func125,Tryz.ntmps125
 go_wp2_with (first|(go_at_call 48;refine(Y.out _ (by(exact kp))).mono ?_;rintro e s ⟨rfl,rfl⟩)|fail)
 (go_at_call 134;refine(X.out _ (by(exact kp))).mono ?_;rintro e w1 ⟨rfl,j⟩;have J:=j.size;simp only[World.size_alloc]at J;have ab:w.heap.size<w1.heap.size:=(by omega);have ad:w.heap.size+1<w1.heap.size:=(by omega);have L:w.heap.size+2<w1.heap.size:=(by omega);have S:=j.cell (a:=⟨w.heap.size,0,none⟩) (v:=.int .u8 lo.tag) (by simp[go_sem]);have T:=j.cell (a:=⟨w.heap.size,1,none⟩) (v:=.int .u32 lo.to) (by simp[go_sem]);have N:=j.cell (a:=⟨w.heap.size+1,0,none⟩) (v:=.int .u8 hi.tag) (by simp[go_sem]);have O:=j.cell (a:=⟨w.heap.size+1,1,none⟩) (v:=.int .u32 hi.to) (by simp[go_sem]);have z:=j.cell (a:=⟨w.heap.size+2,0,none⟩) (v:=.int .u8 0) (by simp[go_sem]);have A:=j.cell (a:=⟨w.heap.size+2,1,none⟩) (v:=.int .u32 0) (by simp[go_sem]);have U:=fun o:Nat=>(j.av (fun _=>False)).frozen (a:=⟨w.heap.size+2,o,none⟩) (by simp[go_sem]) (fun h=>h) (by simp[go_sem]);have Z:aa w w1:=(by(exact kp)))
 go_wp2_with fail
 (go_at_call 134;refine(W.out _ (by(exact kp))).mono ?_;rintro e w1 ⟨rfl,j⟩;have J:=j.size;have U:=fun o:Nat=>(j.av (fun _=>False)).frozen (a:=⟨w.heap.size+2,o,none⟩) (by dsimp only;omega) (fun h=>h) (U o);have S:=j.cell S;have T:=j.cell T;have N:=j.cell N;have O:=j.cell O;have z:=j.cell z;have A:=j.cell A;have ab:w.heap.size<w1.heap.size:=(by omega);have ad:w.heap.size+1<w1.heap.size:=(by omega);have L:w.heap.size+2<w1.heap.size:=(by omega);have Z:aa w w1:=(by(exact kp)))
 go_wp2_with fail
 all_goals refine bodyPost_ret (v:=.tuple #[.agg #[.int .u8 0,.int .u32 0],.int .u8 1]) (by simp[results,Tryz.results125,go_sem,L,z,A]) rfl ⟨rfl,by(exact kp)⟩

theorem Bl (t:Nat)(l n:Int)(lo hi:Edge)(w:World)(a1:n≤16)
  (a2:t<w.heap.size)
  (L:∀q,aa w q→Calls Tryz.prog 48 #[.pointer (some ⟨t,0,none⟩)] q fun e s=>e=.returned (.int .i64 n)∧q=s)
  (av:0≤l) (aw:l<n)
  (z:lo=hi)
  (J:∀q,aa w q→Calls Tryz.prog 134 #[.pointer (some ⟨t,0,none⟩),.int .u8 5,.agg #[.int .u8 lo.tag,.int .u32 lo.to],.int .i64 (l+1)] q fun e s=>e=.returned (.bool true)∧aa q s)
  (I:∀q,aa w q→Calls Tryz.prog 134 #[.pointer (some ⟨t,0,none⟩),.int .u8 5,.agg #[.int .u8 hi.tag,.int .u32 hi.to],.int .i64 (l+1)] q fun e s=>e=.returned (.bool true)∧aa q s)
  : Calls Tryz.prog 125 #[.pointer (some ⟨t,0,none⟩),.int .i64 l,.agg #[.int .u8 lo.tag,.int .u32 lo.to],.agg #[.int .u8 hi.tag,.int .u32 hi.to]] w fun e s=>e=.returned (.tuple #[.agg #[.int .u8 lo.tag,.int .u32 lo.to],.int .u8 0])∧aa w s:=by
 have q:t<w.heap.size+1:=by omega
 have q:t<w.heap.size+1+1:=by omega
 have Z:=Lib.hid L
 clear L
 have Y:=Lib.hid J
 clear J
 have X:=Lib.hid I
 clear I
 have q:=uD lo hi z
 have q:=Lib.hid z
 clear z
 go_enter Tryz.func125,Tryz.ntmps125
 go_wp2_with (first|(go_at_call 48;refine(Z.out _ (by(exact kp))).mono ?_;rintro e s ⟨rfl,rfl⟩)|fail)
 (go_at_call 134;refine(Y.out _ (by(exact kp))).mono ?_;rintro e w1 ⟨rfl,j⟩;have K:=j.size;simp only[World.size_alloc]at K;have ad:w.heap.size<w1.heap.size:=(by omega);have am:w.heap.size+1<w1.heap.size:=(by omega);have N:w.heap.size+2<w1.heap.size:=(by omega);have T:=j.cell (a:=⟨w.heap.size,0,none⟩) (v:=.int .u8 lo.tag) (by simp[go_sem]);have U:=j.cell (a:=⟨w.heap.size,1,none⟩) (v:=.int .u32 lo.to) (by simp[go_sem]);have O:=j.cell (a:=⟨w.heap.size+1,0,none⟩) (v:=.int .u8 hi.tag) (by simp[go_sem]);have S:=j.cell (a:=⟨w.heap.size+1,1,none⟩) (v:=.int .u32 hi.to) (by simp[go_sem]);have A:=j.cell (a:=⟨w.heap.size+2,0,none⟩) (v:=.int .u8 0) (by simp[go_sem]);have E:=j.cell (a:=⟨w.heap.size+2,1,none⟩) (v:=.int .u32 0) (by simp[go_sem]);have W:=fun o:Nat=>(j.av (fun _=>False)).frozen (a:=⟨w.heap.size+2,o,none⟩) (by simp[go_sem]) (fun h=>h) (by simp[go_sem]);have ab:aa w w1:=(by(exact kp)))
 go_wp2_with fail
 (go_at_call 134;refine(X.out _ (by(exact kp))).mono ?_;rintro e w1 ⟨rfl,j⟩;have K:=j.size;have W:=fun o:Nat=>(j.av (fun _=>False)).frozen (a:=⟨w.heap.size+2,o,none⟩) (by dsimp only;omega) (fun h=>h) (W o);have T:=j.cell T;have U:=j.cell U;have O:=j.cell O;have S:=j.cell S;have A:=j.cell A;have E:=j.cell E;have ad:w.heap.size<w1.heap.size:=(by omega);have am:w.heap.size+1<w1.heap.size:=(by omega);have N:w.heap.size+2<w1.heap.size:=(by omega);have ab:aa w w1:=(by(exact kp)))
 go_wp2_with fail
 all_goals refine bodyPost_ret (v:=.tuple #[.agg #[.int .u8 lo.tag,.int .u32 lo.to],.int .u8 0]) (by simp[results,Tryz.results125,go_sem,N,A,E]) rfl ⟨rfl,by(exact kp)⟩

theorem Bm (z:Nat)(l n:Int)(t A:Int)(w:World)(a3:n≤16)
  (a4:z<w.heap.size)
  (O:∀q,aa w q→Calls Tryz.prog 48 #[.pointer (some ⟨z,0,none⟩)] q fun e s=>e=.returned (.int .i64 n)∧q=s)
  (a1:0≤l) (a2:l<n)
  (E:¬(⟨l+1,t⟩:Edge)=⟨A,0⟩)
  (L:∀q,aa w q→Calls Tryz.prog 134 #[.pointer (some ⟨z,0,none⟩),.int .u8 5,.agg #[.int .u8 (l+1),.int .u32 t],.int .i64 (l+1)] q fun e s=>e=.returned (.bool true)∧aa q s)
  (K:∀q,aa w q→Calls Tryz.prog 134 #[.pointer (some ⟨z,0,none⟩),.int .u8 5,.agg #[.int .u8 A,.int .u32 0],.int .i64 (l+1)] q fun e s=>e=.returned (.bool true)∧aa q s)
  : Calls Tryz.prog 125 #[.pointer (some ⟨z,0,none⟩),.int .i64 l,.agg #[.int .u8 (l+1),.int .u32 t],.agg #[.int .u8 A,.int .u32 0]] w fun e s=>e=.returned (.tuple #[.agg #[.int .u8 l,.int .u32 t],.int .u8 0])∧aa w s:=by
 have q:z<w.heap.size+1:=by omega
 have q:z<w.heap.size+1+1:=by omega
 have ad:=Lib.hid O
 clear O
 have ab:=Lib.hid L
 clear L
 have Z:=Lib.hid K
 clear K
 have q:=lP ⟨l+1,t⟩ ⟨A,0⟩ E
 have q:=Lib.hid E
 clear E
 go_enter Tryz.func125,Tryz.ntmps125
 go_wp2_with (first|(go_at_call 48;refine(ad.out _ (by(exact kp))).mono ?_;rintro e s ⟨rfl,rfl⟩)|fail)
 (go_at_call 134;refine(ab.out _ (by(exact kp))).mono ?_;rintro e w1 ⟨rfl,j⟩;have N:=j.size;simp only[World.size_alloc]at N;have av:w.heap.size<w1.heap.size:=(by omega);have aw:w.heap.size+1<w1.heap.size:=(by omega);have S:w.heap.size+2<w1.heap.size:=(by omega);have W:=j.cell (a:=⟨w.heap.size,0,none⟩) (v:=.int .u8 (l+1)) (by simp[go_sem]);have X:=j.cell (a:=⟨w.heap.size,1,none⟩) (v:=.int .u32 t) (by simp[go_sem]);have T:=j.cell (a:=⟨w.heap.size+1,0,none⟩) (v:=.int .u8 A) (by simp[go_sem]);have U:=j.cell (a:=⟨w.heap.size+1,1,none⟩) (v:=.int .u32 0) (by simp[go_sem]);have I:=j.cell (a:=⟨w.heap.size+2,0,none⟩) (v:=.int .u8 0) (by simp[go_sem]);have J:=j.cell (a:=⟨w.heap.size+2,1,none⟩) (v:=.int .u32 0) (by simp[go_sem]);have Y:=fun o:Nat=>(j.av (fun _=>False)).frozen (a:=⟨w.heap.size+2,o,none⟩) (by simp[go_sem]) (fun h=>h) (by simp[go_sem]);have am:aa w w1:=(by(exact kp)))
 go_wp2_with fail
 (go_at_call 134;refine(Z.out _ (by(exact kp))).mono ?_;rintro e w1 ⟨rfl,j⟩;have N:=j.size;have Y:=fun o:Nat=>(j.av (fun _=>False)).frozen (a:=⟨w.heap.size+2,o,none⟩) (by dsimp only;omega) (fun h=>h) (Y o);have W:=j.cell W;have X:=j.cell X;have T:=j.cell T;have U:=j.cell U;have I:=j.cell I;have J:=j.cell J;have av:w.heap.size<w1.heap.size:=(by omega);have aw:w.heap.size+1<w1.heap.size:=(by omega);have S:w.heap.size+2<w1.heap.size:=(by omega);have am:aa w w1:=(by(exact kp)))
 go_wp2_with fail
 all_goals refine bodyPost_ret (v:=.tuple #[.agg #[.int .u8 l,.int .u32 t],.int .u8 0]) (by simp[results,Tryz.results125,go_sem,S,I,J]) rfl ⟨rfl,by(exact kp)⟩

theorem Bg {F:Nat→Prop}(R:World→World→Prop)(t:Nat)(l n a b E:Int)(lo hi:Edge)(w:World)(bq:n≤16)
  (br:t<w.heap.size)
  (Y:∀j,aa w j→Calls Tryz.prog 48 #[.pointer (some ⟨t,0,none⟩)] j fun e s=>e=.returned (.int .i64 n)∧j=s)
  (be:0≤l) (bg:l<n) (I:¬lo=hi) (bi:¬hi.to=0) (bn:0≤lo.tag) (bp:lo.tag≤255) (W:∀k,F k→k<w.heap.size)
  (U:∀j,aa w j→Calls Tryz.prog 134 #[.pointer (some ⟨t,0,none⟩),.int .u8 5,.agg #[.int .u8 lo.tag,.int .u32 lo.to],.int .i64 (l+1)] j fun e s=>e=.returned (.bool true)∧aa j s)
  (S:∀j,aa w j→Calls Tryz.prog 134 #[.pointer (some ⟨t,0,none⟩),.int .u8 5,.agg #[.int .u8 hi.tag,.int .u32 hi.to],.int .i64 (l+1)] j fun e s=>e=.returned (.bool true)∧aa j s)
  (O:∀j,aa w j→Calls Tryz.prog 190 #[.pointer (some ⟨t,0,none⟩),.agg #[.int .u8 5,.int .u8 l,.int .u8 l,.int .u8 lo.tag,.int .u32 lo.to,.int .u8 hi.tag,.int .u32 hi.to]] j fun e s=>e=.returned (.tuple #[.agg #[.int .u8 a,.int .u32 b],.int .u8 E])∧ae F j s∧R j s)
  : Calls Tryz.prog 125 #[.pointer (some ⟨t,0,none⟩),.int .i64 l,.agg #[.int .u8 lo.tag,.int .u32 lo.to],.agg #[.int .u8 hi.tag,.int .u32 hi.to]] w fun e s=>e=.returned (.tuple #[.agg #[.int .u8 a,.int .u32 b],.int .u8 E]) ∧
   ∃j A,aa w j∧ae F j A∧R j A∧ae (fun k=>w.heap.size≤k∧k<j.heap.size) A s:=by
 have j:t<w.heap.size+1:=by omega
 have j:t<w.heap.size+1+1:=by omega
 have J:¬F (w.heap.size+2):=fun h=>by have:=W _ h;omega
 have a4:=Lib.hid Y
 clear Y
 have a3:=Lib.hid U
 have a2:=Lib.hid S
 have a1:=Lib.hid O
 have j:=lP lo hi I
 have j:=Lib.hid I
 clear I O S U W
 go_enter Tryz.func125,Tryz.ntmps125
 go_wp2_with (first|(go_at_call 48;refine(a4.out _ (by(exact kp))).mono ?_;rintro e s ⟨rfl,rfl⟩)|fail)
 (go_at_call 134;refine(a3.out _ (by(exact kp))).mono ?_;rintro e w1 ⟨rfl,q⟩;have X:=q.size;simp only[World.size_alloc]at X;have a7:w.heap.size<w1.heap.size:=(by omega);have a8:w.heap.size+1<w1.heap.size:=(by omega);have Z:w.heap.size+2<w1.heap.size:=(by omega);have av:=q.cell (a:=⟨w.heap.size,0,none⟩) (v:=.int .u8 lo.tag) (by simp[go_sem]);have aw:=q.cell (a:=⟨w.heap.size,1,none⟩) (v:=.int .u32 lo.to) (by simp[go_sem]);have ad:=q.cell (a:=⟨w.heap.size+1,0,none⟩) (v:=.int .u8 hi.tag) (by simp[go_sem]);have am:=q.cell (a:=⟨w.heap.size+1,1,none⟩) (v:=.int .u32 hi.to) (by simp[go_sem]);have K:=q.cell (a:=⟨w.heap.size+2,0,none⟩) (v:=.int .u8 0) (by simp[go_sem]);have L:=q.cell (a:=⟨w.heap.size+2,1,none⟩) (v:=.int .u32 0) (by simp[go_sem]);have N:=fun o:Nat=>(q.av (fun _=>False)).frozen (a:=⟨w.heap.size+2,o,none⟩) (by simp[go_sem]) (fun h=>h) (by simp[go_sem]);have T:aa w w1:=(by(exact kp)))
 go_wp2_with fail
 (go_at_call 134;refine(a2.out _ (by(exact kp))).mono ?_;rintro e w1 ⟨rfl,q⟩;have X:=q.size;have N:=fun o:Nat=>(q.av (fun _=>False)).frozen (a:=⟨w.heap.size+2,o,none⟩) (by dsimp only;omega) (fun h=>h) (N o);have av:=q.cell av;have aw:=q.cell aw;have ad:=q.cell ad;have am:=q.cell am;have K:=q.cell K;have L:=q.cell L;have a7:w.heap.size<w1.heap.size:=(by omega);have a8:w.heap.size+1<w1.heap.size:=(by omega);have Z:w.heap.size+2<w1.heap.size:=(by omega);have T:aa w w1:=(by(exact kp)))
 go_wp2_with (first|(go_at_call 190;refine(a1.out _ (by(exact kp))).mono ?_;rintro e ab ⟨rfl,z,a5⟩;have j:=z.size;have a6:w.heap.size+2<ab.heap.size:=(by omega);have a':=z.cell (a:=⟨w.heap.size+2,0,none⟩) J K;have bb:=z.cell (a:=⟨w.heap.size+2,1,none⟩) J L;have j:=fun o:Nat=>z.frozen (a:=⟨w.heap.size+2,o,none⟩) Z J (N o))|fail)
 refine bodyPost_ret (v:=.tuple #[.agg #[.int .u8 a,.int .u32 b],.int .u8 E]) (by simp[results,Tryz.results125,go_sem,a6,a',bb]) rfl ⟨rfl,w1,ab,T,z,a5,?_⟩
 (repeat (first|with_reducible exact ae.refl _ _|refine ae.setCell ?_ (Or.inl (by dsimp only;omega)) _|with_reducible refine ae.drewN ?_ _|with_reducible refine ae.drew ?_|with_reducible refine ae.alloc ?_ _))

theorem Bh {F:Nat→Prop}(R:World→World→Prop)(t:Nat)(l n a b I:Int)(lo:Edge)(z:Int)(w:World)(br:n≤16)
  (bs:t<w.heap.size)
  (Z:∀j,aa w j→Calls Tryz.prog 48 #[.pointer (some ⟨t,0,none⟩)] j fun e s=>e=.returned (.int .i64 n)∧j=s)
  (bg:0≤l) (bi:l<n) (J:¬lo=(⟨z,0⟩:Edge)) (bn:¬lo.tag=l+1) (bp:0≤lo.tag) (bq:lo.tag≤255) (X:∀k,F k→k<w.heap.size)
  (W:∀j,aa w j→Calls Tryz.prog 134 #[.pointer (some ⟨t,0,none⟩),.int .u8 5,.agg #[.int .u8 lo.tag,.int .u32 lo.to],.int .i64 (l+1)] j fun e s=>e=.returned (.bool true)∧aa j s)
  (T:∀j,aa w j→Calls Tryz.prog 134 #[.pointer (some ⟨t,0,none⟩),.int .u8 5,.agg #[.int .u8 z,.int .u32 0],.int .i64 (l+1)] j fun e s=>e=.returned (.bool true)∧aa j s)
  (S:∀j,aa w j→Calls Tryz.prog 190 #[.pointer (some ⟨t,0,none⟩),.agg #[.int .u8 5,.int .u8 l,.int .u8 l,.int .u8 lo.tag,.int .u32 lo.to,.int .u8 z,.int .u32 0]] j fun e s=>e=.returned (.tuple #[.agg #[.int .u8 a,.int .u32 b],.int .u8 I])∧ae F j s∧R j s)
  : Calls Tryz.prog 125 #[.pointer (some ⟨t,0,none⟩),.int .i64 l,.agg #[.int .u8 lo.tag,.int .u32 lo.to],.agg #[.int .u8 z,.int .u32 0]] w fun e s=>e=.returned (.tuple #[.agg #[.int .u8 a,.int .u32 b],.int .u8 I]) ∧
   ∃j E,aa w j∧ae F j E∧R j E∧ae (fun k=>w.heap.size≤k∧k<j.heap.size) E s:=by
 have j:t<w.heap.size+1:=by omega
 have j:t<w.heap.size+1+1:=by omega
 have K:¬F (w.heap.size+2):=fun h=>by have:=X _ h;omega
 have a5:=Lib.hid Z
 clear Z
 have a4:=Lib.hid W
 have a3:=Lib.hid T
 have a2:=Lib.hid S
 have j:=lP lo ⟨z,0⟩ J
 have j:=Lib.hid J
 clear J S T W X
 go_enter Tryz.func125,Tryz.ntmps125
 go_wp2_with (first|(go_at_call 48;refine(a5.out _ (by(exact kp))).mono ?_;rintro e s ⟨rfl,rfl⟩)|fail)
 (go_at_call 134;refine(a4.out _ (by(exact kp))).mono ?_;rintro e w1 ⟨rfl,q⟩;have Y:=q.size;simp only[World.size_alloc]at Y;have a8:w.heap.size<w1.heap.size:=(by omega);have a':w.heap.size+1<w1.heap.size:=(by omega);have ab:w.heap.size+2<w1.heap.size:=(by omega);have aw:=q.cell (a:=⟨w.heap.size,0,none⟩) (v:=.int .u8 lo.tag) (by simp[go_sem]);have a1:=q.cell (a:=⟨w.heap.size,1,none⟩) (v:=.int .u32 lo.to) (by simp[go_sem]);have am:=q.cell (a:=⟨w.heap.size+1,0,none⟩) (v:=.int .u8 z) (by simp[go_sem]);have av:=q.cell (a:=⟨w.heap.size+1,1,none⟩) (v:=.int .u32 0) (by simp[go_sem]);have L:=q.cell (a:=⟨w.heap.size+2,0,none⟩) (v:=.int .u8 0) (by simp[go_sem]);have N:=q.cell (a:=⟨w.heap.size+2,1,none⟩) (v:=.int .u32 0) (by simp[go_sem]);have O:=fun o:Nat=>(q.av (fun _=>False)).frozen (a:=⟨w.heap.size+2,o,none⟩) (by simp[go_sem]) (fun h=>h) (by simp[go_sem]);have U:aa w w1:=(by(exact kp)))
 go_wp2_with fail
 (go_at_call 134;refine(a3.out _ (by(exact kp))).mono ?_;rintro e w1 ⟨rfl,q⟩;have Y:=q.size;have O:=fun o:Nat=>(q.av (fun _=>False)).frozen (a:=⟨w.heap.size+2,o,none⟩) (by dsimp only;omega) (fun h=>h) (O o);have aw:=q.cell aw;have a1:=q.cell a1;have am:=q.cell am;have av:=q.cell av;have L:=q.cell L;have N:=q.cell N;have a8:w.heap.size<w1.heap.size:=(by omega);have a':w.heap.size+1<w1.heap.size:=(by omega);have ab:w.heap.size+2<w1.heap.size:=(by omega);have U:aa w w1:=(by(exact kp)))
 go_wp2_with (first|(go_at_call 190;refine(a2.out _ (by(exact kp))).mono ?_;rintro e ad ⟨rfl,A,a6⟩;have j:=A.size;have a7:w.heap.size+2<ad.heap.size:=(by omega);have bb:=A.cell (a:=⟨w.heap.size+2,0,none⟩) K L;have be:=A.cell (a:=⟨w.heap.size+2,1,none⟩) K N;have j:=fun o:Nat=>A.frozen (a:=⟨w.heap.size+2,o,none⟩) ab K (O o))|fail)
 refine bodyPost_ret (v:=.tuple #[.agg #[.int .u8 a,.int .u32 b],.int .u8 I]) (by simp[results,Tryz.results125,go_sem,a7,bb,be]) rfl ⟨rfl,w1,ad,U,A,a6,?_⟩
 (repeat (first|with_reducible exact ae.refl _ _|refine ae.setCell ?_ (Or.inl (by dsimp only;omega)) _|with_reducible refine ae.drewN ?_ _|with_reducible refine ae.drew ?_|with_reducible refine ae.alloc ?_ _))

theorem ag.a8 {F:Nat→Prop}{w j:World}{s:Nat}{M:St}(h:ag F w s M)(q:aa w j):ae F w j∧ag (ao F w j) j s M:=
 ⟨q.av F,(h.U q).mono (fun _ h=>.inl h) (fun k t=>by rcases t with j|j;exact(h.U q).lt k j;exact j.2)⟩

def aX (M:St)(tag:Int)(r:Rec):Edge:=if M.a7 r=0 then⟨tag,M.bg r⟩else⟨0,0⟩

theorem ag.pos {F:Nat→Prop}{w:World}{j:Nat}{M:St}(h:ag F w j M):j<w.heap.size:=h.lt _ h.own

theorem AN {F:Nat→Prop}{w:World}{s:Nat}{M:St}(h:ag F w s M)(r:Rec)(O:r.ok) :
  Calls Tryz.prog 190 #[.pointer (some ⟨s,0,none⟩),.agg #[.int .u8 r.ad,.int .u8 r.I,.int .u8 r.J,.int .u8 r.lo.tag,.int .u32 r.lo.to,.int .u8 r.hi.tag,.int .u32 r.hi.to]] w fun e z=>e=.returned (.tuple #[.agg #[.int .u8 (aX M r.I r).tag,.int .u32 (aX M r.I r).to],.int .u8 (M.a7 r)])∧ae F w z∧ag (ao F w z) z s (M.a6 r):=by
 have L:=fun(j:World) (N:aa w j)=>jK (h.U N) r O
 by_cases t:M.a7 r=0
 ·have A:aX M r.I r=⟨r.I,M.bg r⟩:=if_pos t;rw[A,t];rw[t]at L;refine(Be s r (M.bg r) w h.pos h.lt (fun j q=>ag (ao F j q) q s (M.a6 r)) L).mono ?_;rintro e z ⟨rfl,j,q,E,I,J,K⟩;exact⟨rfl,J.after h.lt E I K⟩
 ·have A:aX M r.I r=⟨0,0⟩:=if_neg t;rw[A];refine(Bd s r (M.bg r) (M.a7 r) t w h.pos h.lt (fun j q=>ag (ao F j q) q s (M.a6 r)) L).mono ?_;rintro e z ⟨rfl,j,q,E,I,J,K⟩;exact⟨rfl,J.after h.lt E I K⟩

def bl (M:St)(l:Int)(lo hi:Edge):(Edge×Int) ⊕ Rec:=
 if l<0∨M.n≤l then .inl (⟨0,0⟩,3)
 else if M.leads 5 lo (l+1)=false∨M.leads 5 hi (l+1)=false then .inl (⟨0,0⟩,1)
 else if lo=hi then .inl (lo,0)
 else if hi.to=0∧lo.tag=l+1 then .inl (⟨l,lo.to⟩,0)
 else .inr ⟨5,l,l,lo,hi⟩

def iI (M:St):(Edge×Int) ⊕ Rec→Edge | .inl x=>x.1 | .inr r=>aX M r.I r
def bS (M:St):(Edge×Int) ⊕ Rec→Int | .inl x=>x.2 | .inr r=>M.a7 r
def aM (M:St):(Edge×Int) ⊕ Rec→St | .inl _=>M | .inr r=>M.a6 r
theorem cI (b:Bool):b=false∨b=true:=by cases b<;>simp

theorem AO {F:Nat→Prop}{w:World}{s:Nat}{M:St}(h:ag F w s M)(l:Int)(lo hi:Edge)(U:lo.ok)(a4:hi.ok) :
  Calls Tryz.prog 125 #[.pointer (some ⟨s,0,none⟩),.int .i64 l,.agg #[.int .u8 lo.tag,.int .u32 lo.to],.agg #[.int .u8 hi.tag,.int .u32 hi.to]] w fun e t=>
   e=.returned (.tuple #[.agg #[.int .u8 (iI M (bl M l lo hi)).tag,.int .u32 (iI M (bl M l lo hi)).to],.int .u8 (bS M (bl M l lo hi))])∧ae F w t∧ag (ao F w t) t s (aM M (bl M l lo hi)):=by
 have I:=h.wf.br
 have J:=fun(q:World) (O:aa w q)=>dz (h.U O)
 have A:=fun(q:World) (O:aa w q)=>cV (h.U O) 5 lo (l+1) U
 have S:=fun(q:World) (O:aa w q)=>cV (h.U O) 5 hi (l+1) a4
 by_cases W:l<0∨M.n≤l
 ·have e:bl M l lo hi=.inl (⟨0,0⟩,3):=if_pos W;rw[e];by_cases a5:l<0;·exact(Bk s l M.n lo hi w I h.pos J a5).mono fun e t j=>⟨j.1,h.a8 j.2⟩
  ·exact(Bf s l M.n lo hi w I h.pos J (by omega) (by omega)).mono fun e t j=>⟨j.1,h.a8 j.2⟩
 ·have E:0≤l:=by omega
  have T:l<M.n:=by omega
  by_cases z:M.leads 5 lo (l+1)=false∨M.leads 5 hi (l+1)=false
  ·have e:bl M l lo hi=.inl (⟨0,0⟩,1):=(by unfold bl;rw[if_neg W,if_pos z]);rw[e];rcases cI (M.leads 5 lo (l+1))with L|L
   ·rw[L]at A;exact(Bj s l M.n lo hi w I h.pos J E T A).mono fun e t j=>⟨j.1,h.a8 j.2⟩
   ·rcases z with z|Z;·rw[z]at L;cases L
    ·rw[L]at A;rw[Z]at S;exact(Bi s l M.n lo hi w I h.pos J E T A S).mono fun e t j=>⟨j.1,h.a8 j.2⟩
  ·have L:M.leads 5 lo (l+1)=true:=(by rcases cI (M.leads 5 lo (l+1))with b|b;exact(z (.inl b)).elim;exact b);have Z:M.leads 5 hi (l+1)=true:=(by rcases cI (M.leads 5 hi (l+1))with b|b;exact(z (.inr b)).elim;exact b);rw[L]at A;rw[Z]at S;by_cases N:lo=hi
   ·have e:bl M l lo hi=.inl (lo,0):=(by unfold bl;rw[if_neg W,if_neg z,if_pos N]);rw[e];exact(Bl s l M.n lo hi w I h.pos J E T N A S).mono fun e t j=>⟨j.1,h.a8 j.2⟩
   ·by_cases X:hi.to=0∧lo.tag=l+1
    ·have e:bl M l lo hi=.inl (⟨l,lo.to⟩,0):=(by unfold bl;rw[if_neg W,if_neg z,if_neg N,if_pos X]);rw[e];obtain⟨lt,a8⟩:=lo;obtain⟨Y,a6⟩:=hi;obtain⟨a1,a2⟩:=X;dsimp only at a1 a2;subst a1;subst a2;exact(Bm s l M.n a8 Y w I h.pos J E T N A S).mono fun e t j=>⟨j.1,h.a8 j.2⟩
    ·have e:bl M l lo hi=.inr ⟨5,l,l,lo,hi⟩:=(by unfold bl;rw[if_neg W,if_neg z,if_neg N,if_neg X]);rw[e];have j:(⟨5,l,l,lo,hi⟩:Rec).ok:=⟨⟨by show(0:Int)≤5;decide,by show(5:Int)≤255;decide⟩,⟨E,by show l≤255;omega⟩,⟨E,by show l≤255;omega⟩,U,a4⟩;have a3:=fun(q:World) (O:aa w q)=>AN (h.U O) ⟨5,l,l,lo,hi⟩ j;by_cases ab:hi.to=0
     ·obtain⟨Y,a6⟩:=hi;dsimp only at ab;subst ab;refine(Bh (fun q K=>ag (ao F q K) K s (M.a6 ⟨5,l,l,lo,⟨Y,0⟩⟩)) s l M.n _ _ _ lo Y w I h.pos J E T N (fun a7=>X ⟨rfl,a7⟩) U.1.1 U.1.2 h.lt A S a3).mono ?_;rintro e t ⟨rfl,q,K,ad,am,av,aw⟩;exact⟨rfl,av.after h.lt ad am aw⟩
     ·refine(Bg (fun q K=>ag (ao F q K) K s (M.a6 ⟨5,l,l,lo,hi⟩)) s l M.n _ _ _ lo hi w I h.pos J E T N ab U.1.1 U.1.2 h.lt A S a3).mono ?_;rintro e t ⟨rfl,q,K,ad,am,av,aw⟩;exact⟨rfl,av.after h.lt ad am aw⟩

theorem sI {F:Nat→Prop}(A:Nat)(r:Rec)(id:Int)(w:World)(U:A<w.heap.size)(I:∀k,F k→k<w.heap.size)(R:World→World→Prop)
  (E:∀j,aa w j→Calls Tryz.prog 80 #[.pointer (some ⟨A,0,none⟩),.agg #[.int .u8 r.ad,.int .u8 r.I,.int .u8 r.J,.int .u8 r.lo.tag,.int .u32 r.lo.to,.int .u8 r.hi.tag,.int .u32 r.hi.to]] j fun e s=>e=.returned (.tuple #[.int .u32 id,.int .u8 0])∧ae F j s∧R j s) :
  Calls Tryz.prog 186 #[.pointer (some ⟨A,0,none⟩),.agg #[.int .u8 r.ad,.int .u8 r.I,.int .u8 r.J,.int .u8 r.lo.tag,.int .u32 r.lo.to,.int .u8 r.hi.tag,.int .u32 r.hi.to]] w fun e s=>e=.returned (.tuple #[.agg #[.int .u8 0,.int .u32 id],.int .u8 0]) ∧
   ∃j t,aa w j∧ae F j t∧R j t∧ae (fun k=>w.heap.size≤k∧k<j.heap.size) t s:=by
 have J:=Lib.hid E
 have j:=Lib.hid I
 clear E I
 have O:¬F w.heap.size:=fun h=>by have:=j.out _ h;omega
 have z:¬F (w.heap.size+1):=fun h=>by have:=j.out _ h;omega
 go_enter Tryz.func186,Tryz.ntmps186
 go_wp2_with (go_at_call 80;refine(J.out _ (by(exact kp))).mono ?_;rintro e w1 ⟨rfl,q,K⟩;have L:=q.size;simp only[World.size_alloc]at L;have j:=q.cell (a:=⟨w.heap.size,1,none⟩) O (v:=.int .u8 r.I) (by simp);have S:=q.cell (a:=⟨w.heap.size+1,0,none⟩) z (v:=.int .u8 0) (by simp);have T:=q.cell (a:=⟨w.heap.size+1,1,none⟩) z (v:=.int .u32 0) (by simp);have j:=fun o:Nat=>q.frozen (a:=⟨w.heap.size+1,o,none⟩) (by simp) z (by simp);have N:w.heap.size+1<w1.heap.size:=(by omega);have j:w.heap.size<w1.heap.size:=(by omega))
 refine bodyPost_ret (v:=.tuple #[.agg #[.int .u8 0,.int .u32 id],.int .u8 0]) (by simp[results,Tryz.results186,go_sem,N,S,T]) rfl ⟨rfl,_,w1,?_,q,K,?_⟩
 ·(exact kp)
 ·(have j:(w.alloc (.cells #[.int .u8 r.ad,.int .u8 r.I,.int .u8 r.J,.int .u8 r.lo.tag,.int .u32 r.lo.to,.int .u8 r.hi.tag,.int .u32 r.hi.to] 134)).heap.size=w.heap.size+1:=by simp);(try simp only[World.size_alloc]);(repeat (first|with_reducible exact ae.refl _ _|refine ae.setCell ?_ (Or.inl (by dsimp only;omega)) _|with_reducible refine ae.drewN ?_ _|with_reducible refine ae.drew ?_|with_reducible refine ae.alloc ?_ _))

theorem sH {F:Nat→Prop}(E:Nat)(r:Rec)(id s:Int)(W:s≠0)(w:World)(X:E<w.heap.size)(J:∀k,F k→k<w.heap.size)(R:World→World→Prop)
  (I:∀j,aa w j→Calls Tryz.prog 80 #[.pointer (some ⟨E,0,none⟩),.agg #[.int .u8 r.ad,.int .u8 r.I,.int .u8 r.J,.int .u8 r.lo.tag,.int .u32 r.lo.to,.int .u8 r.hi.tag,.int .u32 r.hi.to]] j fun e t=>e=.returned (.tuple #[.int .u32 id,.int .u8 s])∧ae F j t∧R j t) :
  Calls Tryz.prog 186 #[.pointer (some ⟨E,0,none⟩),.agg #[.int .u8 r.ad,.int .u8 r.I,.int .u8 r.J,.int .u8 r.lo.tag,.int .u32 r.lo.to,.int .u8 r.hi.tag,.int .u32 r.hi.to]] w fun e t=>e=.returned (.tuple #[.agg #[.int .u8 0,.int .u32 0],.int .u8 s]) ∧
   ∃j z,aa w j∧ae F j z∧R j z∧ae (fun k=>w.heap.size≤k∧k<j.heap.size) z t:=by
 have K:=Lib.hid I
 have j:=Lib.hid J
 clear I J
 have S:¬F w.heap.size:=fun h=>by have:=j.out _ h;omega
 have A:¬F (w.heap.size+1):=fun h=>by have:=j.out _ h;omega
 go_enter Tryz.func186,Tryz.ntmps186
 go_wp2_with (go_at_call 80;refine(K.out _ (by(exact kp))).mono ?_;rintro e w1 ⟨rfl,q,L⟩;have N:=q.size;simp only[World.size_alloc]at N;have j:=q.cell (a:=⟨w.heap.size,1,none⟩) S (v:=.int .u8 r.I) (by simp);have T:=q.cell (a:=⟨w.heap.size+1,0,none⟩) A (v:=.int .u8 0) (by simp);have U:=q.cell (a:=⟨w.heap.size+1,1,none⟩) A (v:=.int .u32 0) (by simp);have j:=fun o:Nat=>q.frozen (a:=⟨w.heap.size+1,o,none⟩) (by simp) A (by simp);have O:w.heap.size+1<w1.heap.size:=(by omega);have j:w.heap.size<w1.heap.size:=(by omega))
 refine bodyPost_ret (v:=.tuple #[.agg #[.int .u8 0,.int .u32 0],.int .u8 s]) (by simp[results,Tryz.results186,go_sem,O,T,U]) rfl ⟨rfl,_,w1,?_,q,L,?_⟩
 ·(exact kp)
 ·(have j:(w.alloc (.cells #[.int .u8 r.ad,.int .u8 r.I,.int .u8 r.J,.int .u8 r.lo.tag,.int .u32 r.lo.to,.int .u8 r.hi.tag,.int .u32 r.hi.to] 134)).heap.size=w.heap.size+1:=by simp);(try simp only[World.size_alloc]);(repeat (first|with_reducible exact ae.refl _ _|refine ae.setCell ?_ (Or.inl (by dsimp only;omega)) _|with_reducible refine ae.drewN ?_ _|with_reducible refine ae.drew ?_|with_reducible refine ae.alloc ?_ _))

theorem Cq {F:Nat→Prop}(A:Nat)(r:Rec)(id:Int)(w:World)(U:A<w.heap.size)(I:∀k,F k→k<w.heap.size)(R:World→World→Prop)
  (E:∀j,aa w j→Calls Tryz.prog 80 #[.pointer (some ⟨A,0,none⟩),.agg #[.int .u8 r.ad,.int .u8 r.I,.int .u8 r.J,.int .u8 r.lo.tag,.int .u32 r.lo.to,.int .u8 r.hi.tag,.int .u32 r.hi.to]] j fun e s=>e=.returned (.tuple #[.int .u32 id,.int .u8 0])∧ae F j s∧R j s) :
  Calls Tryz.prog 187 #[.pointer (some ⟨A,0,none⟩),.agg #[.int .u8 r.ad,.int .u8 r.I,.int .u8 r.J,.int .u8 r.lo.tag,.int .u32 r.lo.to,.int .u8 r.hi.tag,.int .u32 r.hi.to]] w fun e s=>e=.returned (.tuple #[.agg #[.int .u8 0,.int .u32 id],.int .u8 0]) ∧
   ∃j t,aa w j∧ae F j t∧R j t∧ae (fun k=>w.heap.size≤k∧k<j.heap.size) t s:=by
 have J:=Lib.hid E
 have j:=Lib.hid I
 clear E I
 have O:¬F w.heap.size:=fun h=>by have:=j.out _ h;omega
 have z:¬F (w.heap.size+1):=fun h=>by have:=j.out _ h;omega
 go_enter Tryz.func187,Tryz.ntmps187
 go_wp2_with (go_at_call 80;refine(J.out _ (by(exact kp))).mono ?_;rintro e w1 ⟨rfl,q,K⟩;have L:=q.size;simp only[World.size_alloc]at L;have j:=q.cell (a:=⟨w.heap.size,1,none⟩) O (v:=.int .u8 r.I) (by simp);have S:=q.cell (a:=⟨w.heap.size+1,0,none⟩) z (v:=.int .u8 0) (by simp);have T:=q.cell (a:=⟨w.heap.size+1,1,none⟩) z (v:=.int .u32 0) (by simp);have j:=fun o:Nat=>q.frozen (a:=⟨w.heap.size+1,o,none⟩) (by simp) z (by simp);have N:w.heap.size+1<w1.heap.size:=(by omega);have j:w.heap.size<w1.heap.size:=(by omega))
 refine bodyPost_ret (v:=.tuple #[.agg #[.int .u8 0,.int .u32 id],.int .u8 0]) (by simp[results,Tryz.results187,go_sem,N,S,T]) rfl ⟨rfl,_,w1,?_,q,K,?_⟩
 ·(exact kp)
 ·(have j:(w.alloc (.cells #[.int .u8 r.ad,.int .u8 r.I,.int .u8 r.J,.int .u8 r.lo.tag,.int .u32 r.lo.to,.int .u8 r.hi.tag,.int .u32 r.hi.to] 134)).heap.size=w.heap.size+1:=by simp);(try simp only[World.size_alloc]);(repeat (first|with_reducible exact ae.refl _ _|refine ae.setCell ?_ (Or.inl (by dsimp only;omega)) _|with_reducible refine ae.drewN ?_ _|with_reducible refine ae.drew ?_|with_reducible refine ae.alloc ?_ _))

theorem Cp {F:Nat→Prop}(E:Nat)(r:Rec)(id s:Int)(W:s≠0)(w:World)(X:E<w.heap.size)(J:∀k,F k→k<w.heap.size)(R:World→World→Prop)
  (I:∀j,aa w j→Calls Tryz.prog 80 #[.pointer (some ⟨E,0,none⟩),.agg #[.int .u8 r.ad,.int .u8 r.I,.int .u8 r.J,.int .u8 r.lo.tag,.int .u32 r.lo.to,.int .u8 r.hi.tag,.int .u32 r.hi.to]] j fun e t=>e=.returned (.tuple #[.int .u32 id,.int .u8 s])∧ae F j t∧R j t) :
  Calls Tryz.prog 187 #[.pointer (some ⟨E,0,none⟩),.agg #[.int .u8 r.ad,.int .u8 r.I,.int .u8 r.J,.int .u8 r.lo.tag,.int .u32 r.lo.to,.int .u8 r.hi.tag,.int .u32 r.hi.to]] w fun e t=>e=.returned (.tuple #[.agg #[.int .u8 0,.int .u32 0],.int .u8 s]) ∧
   ∃j z,aa w j∧ae F j z∧R j z∧ae (fun k=>w.heap.size≤k∧k<j.heap.size) z t:=by
 have K:=Lib.hid I
 have j:=Lib.hid J
 clear I J
 have S:¬F w.heap.size:=fun h=>by have:=j.out _ h;omega
 have A:¬F (w.heap.size+1):=fun h=>by have:=j.out _ h;omega
 go_enter Tryz.func187,Tryz.ntmps187
 go_wp2_with (go_at_call 80;refine(K.out _ (by(exact kp))).mono ?_;rintro e w1 ⟨rfl,q,L⟩;have N:=q.size;simp only[World.size_alloc]at N;have j:=q.cell (a:=⟨w.heap.size,1,none⟩) S (v:=.int .u8 r.I) (by simp);have T:=q.cell (a:=⟨w.heap.size+1,0,none⟩) A (v:=.int .u8 0) (by simp);have U:=q.cell (a:=⟨w.heap.size+1,1,none⟩) A (v:=.int .u32 0) (by simp);have j:=fun o:Nat=>q.frozen (a:=⟨w.heap.size+1,o,none⟩) (by simp) A (by simp);have O:w.heap.size+1<w1.heap.size:=(by omega);have j:w.heap.size<w1.heap.size:=(by omega))
 refine bodyPost_ret (v:=.tuple #[.agg #[.int .u8 0,.int .u32 0],.int .u8 s]) (by simp[results,Tryz.results187,go_sem,O,T,U]) rfl ⟨rfl,_,w1,?_,q,L,?_⟩
 ·(exact kp)
 ·(have j:(w.alloc (.cells #[.int .u8 r.ad,.int .u8 r.I,.int .u8 r.J,.int .u8 r.lo.tag,.int .u32 r.lo.to,.int .u8 r.hi.tag,.int .u32 r.hi.to] 134)).heap.size=w.heap.size+1:=by simp);(try simp only[World.size_alloc]);(repeat (first|with_reducible exact ae.refl _ _|refine ae.setCell ?_ (Or.inl (by dsimp only;omega)) _|with_reducible refine ae.drewN ?_ _|with_reducible refine ae.drew ?_|with_reducible refine ae.alloc ?_ _))

end Go.Proofs.YtafkamlhimkbmaaGreat
