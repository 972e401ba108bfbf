/-
  The six 'found' (printed by wip/mk_found.py).
-/
import Derived.Test.YtafkamlhimkbmaaGreatPSFindA
namespace Go.Proofs.YtafkamlhimkbmaaGreat
set_option maxRecDepth 1000000
set_option maxHeartbeats 8000000
set_option linter.unusedSimpArgs false
set_option linter.unusedVariables false
open Go.RowKit
theorem aq.mono {F G:Nat→Prop}{w:World}{sb:Nat}{M:St}(h:aq F w sb M)(s:∀k,F k→G k)(X:∀k,G k→k<w.heap.size):aq G w sb M:=by
 obtain⟨⟨I,ib,ts,u,z,J,N,O,Q,T,U,V,W⟩,D,t,E⟩:=h;exact⟨⟨I,ib,ts,u,z,J,N,O,Q,T,fun k t=>s k (U k t),fun k t=>s k (V k t),W⟩,s _ D,X,E⟩
theorem qQ {F:Nat→Prop}{w t I E:World}(J:∀k,F k→k<w.heap.size)(u:ae w t)(z:af F t I)(D:af (fun k=>w.heap.size≤k∧k<t.heap.size) I E) :
  af F w E∧(∀k,aH F t I k→aH F w E k)∧(∀k,aH F w E k→k<E.heap.size)∧∀k,aH F t I k→¬(w.heap.size≤k∧k<t.heap.size):=by
 have t:=u.size
 have t:=z.size
 have t:=D.size
 refine⟨⟨D.os.trans (z.os.trans u.os),D.tape.trans (z.tape.trans u.tape),D.output.trans (z.output.trans u.output),by omega,fun k s t=>?_⟩,?_,?_,?_⟩
 ·rw[D.block k (by omega) (by omega),z.block k (by omega) t,u.block k s]
 ·intro k s;rcases s with s|s;·exact .inl s
  ·exact .inr ⟨by omega,by omega⟩
 ·intro k s;rcases s with s|s;·have:=J k s;omega
  ·exact s.2
 ·intro k s t;rcases s with s|s;·have:=J k s;omega
  ·omega
theorem aq.after {F:Nat→Prop}{w s t u:World}{sb:Nat}{M:St}(J:∀k,F k→k<w.heap.size)(D:ae w s)(E:af F s t)(I:aq (aH F s t) t sb M)(z:af (fun k=>w.heap.size≤k∧k<s.heap.size) t u) :
  af F w u∧aq (aH F w u) u sb M:=by
 obtain⟨a,b,c,d⟩:=qQ J D E z
 exact⟨a,(I.keep z d).mono b c⟩
theorem zw {F:Nat→Prop}(sb:Nat)(r:Rec)(id:Int)(w:World)(W:sb<w.heap.size)(I:∀k,F k→k<w.heap.size)(R:World→World→Prop)
  (E:∀s,ae w s→Calls Tryz.prog 80 #[.pointer (some ⟨sb,0,none⟩),.agg #[.int .u8 r.ad,.int .u8 r.top,.int .u8 r.J,.int .u8 r.lo.tag,.int .u32 r.lo.to,.int .u8 r.hi.tag,.int .u32 r.hi.to]] s fun e u=>e=.returned (.tuple #[.int .u32 id,.int .u8 0])∧af F s u∧R s u) :
  Calls Tryz.prog 190 #[.pointer (some ⟨sb,0,none⟩),.agg #[.int .u8 r.ad,.int .u8 r.top,.int .u8 r.J,.int .u8 r.lo.tag,.int .u32 r.lo.to,.int .u8 r.hi.tag,.int .u32 r.hi.to]] w fun e u=>e=.returned (.tuple #[.agg #[.int .u8 r.top,.int .u32 id],.int .u8 0]) ∧
   ∃s z,ae w s∧af F s z∧R s z∧af (fun k=>w.heap.size≤k∧k<s.heap.size) z u:=by
 have J:=aa E
 have s:=aa I
 clear E I
 have T:¬F w.heap.size:=fun h=>by have:=s.out _ h;omega
 have D:¬F (w.heap.size+1):=fun h=>by have:=s.out _ h;omega
 go_enter Tryz.func190,Tryz.ntmps190
 go_wp2_with (go_at_call 80;refine(J.out _ kp).mono ?_;rintro e w1 ⟨rfl,t,N⟩;have O:=t.size;simp only[ak]at O;have s:=t.cell (a:=⟨w.heap.size,1,none⟩) T (v:=.int .u8 r.top) (by simp);have U:=t.cell (a:=⟨w.heap.size+1,0,none⟩) D (v:=.int .u8 0) (by simp);have V:=t.cell (a:=⟨w.heap.size+1,1,none⟩) D (v:=.int .u32 0) (by simp);have s:=fun o:Nat=>t.frozen (a:=⟨w.heap.size+1,o,none⟩) (by simp) D (by simp);have Q:w.heap.size+1<w1.heap.size:=(by omega);have s:w.heap.size<w1.heap.size:=(by omega))
 refine an (v:=.tuple #[.agg #[.int .u8 r.top,.int .u32 id],.int .u8 0]) (by simp[results,Tryz.results190,go_sem,Q,U,V]) rfl ⟨rfl,_,w1,?_,t,N,?_⟩
 ·(exact kp)
 ·(have s:(w.alloc (.cells #[.int .u8 r.ad,.int .u8 r.top,.int .u8 r.J,.int .u8 r.lo.tag,.int .u32 r.lo.to,.int .u8 r.hi.tag,.int .u32 r.hi.to] 134)).heap.size=w.heap.size+1:=by simp);(try simp only[ak]);(repeat (first|with_reducible exact af.refl _ _|refine af.setCell ?_ (Or.inl (by dsimp only;omega)) _|with_reducible refine af.drewN ?_ _|with_reducible refine af.drew ?_|with_reducible refine af.alloc ?_ _))
theorem zu {F:Nat→Prop}(sb:Nat)(r:Rec)(id u:Int)(X:u≠0)(w:World)(Y:sb<w.heap.size)(J:∀k,F k→k<w.heap.size)(R:World→World→Prop)
  (I:∀s,ae w s→Calls Tryz.prog 80 #[.pointer (some ⟨sb,0,none⟩),.agg #[.int .u8 r.ad,.int .u8 r.top,.int .u8 r.J,.int .u8 r.lo.tag,.int .u32 r.lo.to,.int .u8 r.hi.tag,.int .u32 r.hi.to]] s fun e z=>e=.returned (.tuple #[.int .u32 id,.int .u8 u])∧af F s z∧R s z) :
  Calls Tryz.prog 190 #[.pointer (some ⟨sb,0,none⟩),.agg #[.int .u8 r.ad,.int .u8 r.top,.int .u8 r.J,.int .u8 r.lo.tag,.int .u32 r.lo.to,.int .u8 r.hi.tag,.int .u32 r.hi.to]] w fun e z=>e=.returned (.tuple #[.agg #[.int .u8 0,.int .u32 0],.int .u8 u]) ∧
   ∃s D,ae w s∧af F s D∧R s D∧af (fun k=>w.heap.size≤k∧k<s.heap.size) D z:=by
 have N:=aa I
 have s:=aa J
 clear I J
 have U:¬F w.heap.size:=fun h=>by have:=s.out _ h;omega
 have E:¬F (w.heap.size+1):=fun h=>by have:=s.out _ h;omega
 go_enter Tryz.func190,Tryz.ntmps190
 go_wp2_with (go_at_call 80;refine(N.out _ kp).mono ?_;rintro e w1 ⟨rfl,t,O⟩;have Q:=t.size;simp only[ak]at Q;have s:=t.cell (a:=⟨w.heap.size,1,none⟩) U (v:=.int .u8 r.top) (by simp);have V:=t.cell (a:=⟨w.heap.size+1,0,none⟩) E (v:=.int .u8 0) (by simp);have W:=t.cell (a:=⟨w.heap.size+1,1,none⟩) E (v:=.int .u32 0) (by simp);have s:=fun o:Nat=>t.frozen (a:=⟨w.heap.size+1,o,none⟩) (by simp) E (by simp);have T:w.heap.size+1<w1.heap.size:=(by omega);have s:w.heap.size<w1.heap.size:=(by omega))
 refine an (v:=.tuple #[.agg #[.int .u8 0,.int .u32 0],.int .u8 u]) (by simp[results,Tryz.results190,go_sem,T,V,W]) rfl ⟨rfl,_,w1,?_,t,O,?_⟩
 ·(exact kp)
 ·(have s:(w.alloc (.cells #[.int .u8 r.ad,.int .u8 r.top,.int .u8 r.J,.int .u8 r.lo.tag,.int .u32 r.lo.to,.int .u8 r.hi.tag,.int .u32 r.hi.to] 134)).heap.size=w.heap.size+1:=by simp);(try simp only[ak]);(repeat (first|with_reducible exact af.refl _ _|refine af.setCell ?_ (Or.inl (by dsimp only;omega)) _|with_reducible refine af.drewN ?_ _|with_reducible refine af.drew ?_|with_reducible refine af.alloc ?_ _))
theorem sn {F:Nat→Prop}(sb:Nat)(r:Rec)(id:Int)(w:World)(W:sb<w.heap.size)(I:∀k,F k→k<w.heap.size)(R:World→World→Prop)
  (E:∀s,ae w s→Calls Tryz.prog 80 #[.pointer (some ⟨sb,0,none⟩),.agg #[.int .u8 r.ad,.int .u8 r.top,.int .u8 r.J,.int .u8 r.lo.tag,.int .u32 r.lo.to,.int .u8 r.hi.tag,.int .u32 r.hi.to]] s fun e u=>e=.returned (.tuple #[.int .u32 id,.int .u8 0])∧af F s u∧R s u) :
  Calls Tryz.prog 188 #[.pointer (some ⟨sb,0,none⟩),.agg #[.int .u8 r.ad,.int .u8 r.top,.int .u8 r.J,.int .u8 r.lo.tag,.int .u32 r.lo.to,.int .u8 r.hi.tag,.int .u32 r.hi.to]] w fun e u=>e=.returned (.tuple #[.agg #[.int .u8 0,.int .u32 id],.int .u8 0]) ∧
   ∃s z,ae w s∧af F s z∧R s z∧af (fun k=>w.heap.size≤k∧k<s.heap.size) z u:=by
 have J:=aa E
 have s:=aa I
 clear E I
 have T:¬F w.heap.size:=fun h=>by have:=s.out _ h;omega
 have D:¬F (w.heap.size+1):=fun h=>by have:=s.out _ h;omega
 go_enter Tryz.func188,Tryz.ntmps188
 go_wp2_with (go_at_call 80;refine(J.out _ kp).mono ?_;rintro e w1 ⟨rfl,t,N⟩;have O:=t.size;simp only[ak]at O;have s:=t.cell (a:=⟨w.heap.size,1,none⟩) T (v:=.int .u8 r.top) (by simp);have U:=t.cell (a:=⟨w.heap.size+1,0,none⟩) D (v:=.int .u8 0) (by simp);have V:=t.cell (a:=⟨w.heap.size+1,1,none⟩) D (v:=.int .u32 0) (by simp);have s:=fun o:Nat=>t.frozen (a:=⟨w.heap.size+1,o,none⟩) (by simp) D (by simp);have Q:w.heap.size+1<w1.heap.size:=(by omega);have s:w.heap.size<w1.heap.size:=(by omega))
 refine an (v:=.tuple #[.agg #[.int .u8 0,.int .u32 id],.int .u8 0]) (by simp[results,Tryz.results188,go_sem,Q,U,V]) rfl ⟨rfl,_,w1,?_,t,N,?_⟩
 ·(exact kp)
 ·(have s:(w.alloc (.cells #[.int .u8 r.ad,.int .u8 r.top,.int .u8 r.J,.int .u8 r.lo.tag,.int .u32 r.lo.to,.int .u8 r.hi.tag,.int .u32 r.hi.to] 134)).heap.size=w.heap.size+1:=by simp);(try simp only[ak]);(repeat (first|with_reducible exact af.refl _ _|refine af.setCell ?_ (Or.inl (by dsimp only;omega)) _|with_reducible refine af.drewN ?_ _|with_reducible refine af.drew ?_|with_reducible refine af.alloc ?_ _))
theorem sm {F:Nat→Prop}(sb:Nat)(r:Rec)(id u:Int)(X:u≠0)(w:World)(Y:sb<w.heap.size)(J:∀k,F k→k<w.heap.size)(R:World→World→Prop)
  (I:∀s,ae w s→Calls Tryz.prog 80 #[.pointer (some ⟨sb,0,none⟩),.agg #[.int .u8 r.ad,.int .u8 r.top,.int .u8 r.J,.int .u8 r.lo.tag,.int .u32 r.lo.to,.int .u8 r.hi.tag,.int .u32 r.hi.to]] s fun e z=>e=.returned (.tuple #[.int .u32 id,.int .u8 u])∧af F s z∧R s z) :
  Calls Tryz.prog 188 #[.pointer (some ⟨sb,0,none⟩),.agg #[.int .u8 r.ad,.int .u8 r.top,.int .u8 r.J,.int .u8 r.lo.tag,.int .u32 r.lo.to,.int .u8 r.hi.tag,.int .u32 r.hi.to]] w fun e z=>e=.returned (.tuple #[.agg #[.int .u8 0,.int .u32 0],.int .u8 u]) ∧
   ∃s D,ae w s∧af F s D∧R s D∧af (fun k=>w.heap.size≤k∧k<s.heap.size) D z:=by
 have N:=aa I
 have s:=aa J
 clear I J
 have U:¬F w.heap.size:=fun h=>by have:=s.out _ h;omega
 have E:¬F (w.heap.size+1):=fun h=>by have:=s.out _ h;omega
 go_enter Tryz.func188,Tryz.ntmps188
 go_wp2_with (go_at_call 80;refine(N.out _ kp).mono ?_;rintro e w1 ⟨rfl,t,O⟩;have Q:=t.size;simp only[ak]at Q;have s:=t.cell (a:=⟨w.heap.size,1,none⟩) U (v:=.int .u8 r.top) (by simp);have V:=t.cell (a:=⟨w.heap.size+1,0,none⟩) E (v:=.int .u8 0) (by simp);have W:=t.cell (a:=⟨w.heap.size+1,1,none⟩) E (v:=.int .u32 0) (by simp);have s:=fun o:Nat=>t.frozen (a:=⟨w.heap.size+1,o,none⟩) (by simp) E (by simp);have T:w.heap.size+1<w1.heap.size:=(by omega);have s:w.heap.size<w1.heap.size:=(by omega))
 refine an (v:=.tuple #[.agg #[.int .u8 0,.int .u32 0],.int .u8 u]) (by simp[results,Tryz.results188,go_sem,T,V,W]) rfl ⟨rfl,_,w1,?_,t,O,?_⟩
 ·(exact kp)
 ·(have s:(w.alloc (.cells #[.int .u8 r.ad,.int .u8 r.top,.int .u8 r.J,.int .u8 r.lo.tag,.int .u32 r.lo.to,.int .u8 r.hi.tag,.int .u32 r.hi.to] 134)).heap.size=w.heap.size+1:=by simp);(try simp only[ak]);(repeat (first|with_reducible exact af.refl _ _|refine af.setCell ?_ (Or.inl (by dsimp only;omega)) _|with_reducible refine af.drewN ?_ _|with_reducible refine af.drew ?_|with_reducible refine af.alloc ?_ _))
theorem AF {F:Nat→Prop}(sb:Nat)(r:Rec)(id:Int)(w:World)(W:sb<w.heap.size)(I:∀k,F k→k<w.heap.size)(R:World→World→Prop)
  (E:∀s,ae w s→Calls Tryz.prog 80 #[.pointer (some ⟨sb,0,none⟩),.agg #[.int .u8 r.ad,.int .u8 r.top,.int .u8 r.J,.int .u8 r.lo.tag,.int .u32 r.lo.to,.int .u8 r.hi.tag,.int .u32 r.hi.to]] s fun e u=>e=.returned (.tuple #[.int .u32 id,.int .u8 0])∧af F s u∧R s u) :
  Calls Tryz.prog 189 #[.pointer (some ⟨sb,0,none⟩),.agg #[.int .u8 r.ad,.int .u8 r.top,.int .u8 r.J,.int .u8 r.lo.tag,.int .u32 r.lo.to,.int .u8 r.hi.tag,.int .u32 r.hi.to]] w fun e u=>e=.returned (.tuple #[.agg #[.int .u8 0,.int .u32 id],.int .u8 0]) ∧
   ∃s z,ae w s∧af F s z∧R s z∧af (fun k=>w.heap.size≤k∧k<s.heap.size) z u:=by
 have J:=aa E
 have s:=aa I
 clear E I
 have T:¬F w.heap.size:=fun h=>by have:=s.out _ h;omega
 have D:¬F (w.heap.size+1):=fun h=>by have:=s.out _ h;omega
 go_enter Tryz.func189,Tryz.ntmps189
 go_wp2_with (go_at_call 80;refine(J.out _ kp).mono ?_;rintro e w1 ⟨rfl,t,N⟩;have O:=t.size;simp only[ak]at O;have s:=t.cell (a:=⟨w.heap.size,1,none⟩) T (v:=.int .u8 r.top) (by simp);have U:=t.cell (a:=⟨w.heap.size+1,0,none⟩) D (v:=.int .u8 0) (by simp);have V:=t.cell (a:=⟨w.heap.size+1,1,none⟩) D (v:=.int .u32 0) (by simp);have s:=fun o:Nat=>t.frozen (a:=⟨w.heap.size+1,o,none⟩) (by simp) D (by simp);have Q:w.heap.size+1<w1.heap.size:=(by omega);have s:w.heap.size<w1.heap.size:=(by omega))
 refine an (v:=.tuple #[.agg #[.int .u8 0,.int .u32 id],.int .u8 0]) (by simp[results,Tryz.results189,go_sem,Q,U,V]) rfl ⟨rfl,_,w1,?_,t,N,?_⟩
 ·(exact kp)
 ·(have s:(w.alloc (.cells #[.int .u8 r.ad,.int .u8 r.top,.int .u8 r.J,.int .u8 r.lo.tag,.int .u32 r.lo.to,.int .u8 r.hi.tag,.int .u32 r.hi.to] 134)).heap.size=w.heap.size+1:=by simp);(try simp only[ak]);(repeat (first|with_reducible exact af.refl _ _|refine af.setCell ?_ (Or.inl (by dsimp only;omega)) _|with_reducible refine af.drewN ?_ _|with_reducible refine af.drew ?_|with_reducible refine af.alloc ?_ _))
theorem AE {F:Nat→Prop}(sb:Nat)(r:Rec)(id u:Int)(X:u≠0)(w:World)(Y:sb<w.heap.size)(J:∀k,F k→k<w.heap.size)(R:World→World→Prop)
  (I:∀s,ae w s→Calls Tryz.prog 80 #[.pointer (some ⟨sb,0,none⟩),.agg #[.int .u8 r.ad,.int .u8 r.top,.int .u8 r.J,.int .u8 r.lo.tag,.int .u32 r.lo.to,.int .u8 r.hi.tag,.int .u32 r.hi.to]] s fun e z=>e=.returned (.tuple #[.int .u32 id,.int .u8 u])∧af F s z∧R s z) :
  Calls Tryz.prog 189 #[.pointer (some ⟨sb,0,none⟩),.agg #[.int .u8 r.ad,.int .u8 r.top,.int .u8 r.J,.int .u8 r.lo.tag,.int .u32 r.lo.to,.int .u8 r.hi.tag,.int .u32 r.hi.to]] w fun e z=>e=.returned (.tuple #[.agg #[.int .u8 0,.int .u32 0],.int .u8 u]) ∧
   ∃s D,ae w s∧af F s D∧R s D∧af (fun k=>w.heap.size≤k∧k<s.heap.size) D z:=by
 have N:=aa I
 have s:=aa J
 clear I J
 have U:¬F w.heap.size:=fun h=>by have:=s.out _ h;omega
 have E:¬F (w.heap.size+1):=fun h=>by have:=s.out _ h;omega
 go_enter Tryz.func189,Tryz.ntmps189
 go_wp2_with (go_at_call 80;refine(N.out _ kp).mono ?_;rintro e w1 ⟨rfl,t,O⟩;have Q:=t.size;simp only[ak]at Q;have s:=t.cell (a:=⟨w.heap.size,1,none⟩) U (v:=.int .u8 r.top) (by simp);have V:=t.cell (a:=⟨w.heap.size+1,0,none⟩) E (v:=.int .u8 0) (by simp);have W:=t.cell (a:=⟨w.heap.size+1,1,none⟩) E (v:=.int .u32 0) (by simp);have s:=fun o:Nat=>t.frozen (a:=⟨w.heap.size+1,o,none⟩) (by simp) E (by simp);have T:w.heap.size+1<w1.heap.size:=(by omega);have s:w.heap.size<w1.heap.size:=(by omega))
 refine an (v:=.tuple #[.agg #[.int .u8 0,.int .u32 0],.int .u8 u]) (by simp[results,Tryz.results189,go_sem,T,V,W]) rfl ⟨rfl,_,w1,?_,t,O,?_⟩
 ·(exact kp)
 ·(have s:(w.alloc (.cells #[.int .u8 r.ad,.int .u8 r.top,.int .u8 r.J,.int .u8 r.lo.tag,.int .u32 r.lo.to,.int .u8 r.hi.tag,.int .u32 r.hi.to] 134)).heap.size=w.heap.size+1:=by simp);(try simp only[ak]);(repeat (first|with_reducible exact af.refl _ _|refine af.setCell ?_ (Or.inl (by dsimp only;omega)) _|with_reducible refine af.drewN ?_ _|with_reducible refine af.drew ?_|with_reducible refine af.alloc ?_ _))
theorem rC {F:Nat→Prop}(sb:Nat)(r:Rec)(id:Int)(w:World)(W:sb<w.heap.size)(I:∀k,F k→k<w.heap.size)(R:World→World→Prop)
  (E:∀s,ae w s→Calls Tryz.prog 80 #[.pointer (some ⟨sb,0,none⟩),.agg #[.int .u8 r.ad,.int .u8 r.top,.int .u8 r.J,.int .u8 r.lo.tag,.int .u32 r.lo.to,.int .u8 r.hi.tag,.int .u32 r.hi.to]] s fun e u=>e=.returned (.tuple #[.int .u32 id,.int .u8 0])∧af F s u∧R s u) :
  Calls Tryz.prog 186 #[.pointer (some ⟨sb,0,none⟩),.agg #[.int .u8 r.ad,.int .u8 r.top,.int .u8 r.J,.int .u8 r.lo.tag,.int .u32 r.lo.to,.int .u8 r.hi.tag,.int .u32 r.hi.to]] w fun e u=>e=.returned (.tuple #[.agg #[.int .u8 0,.int .u32 id],.int .u8 0]) ∧
   ∃s z,ae w s∧af F s z∧R s z∧af (fun k=>w.heap.size≤k∧k<s.heap.size) z u:=by
 have J:=aa E
 have s:=aa I
 clear E I
 have T:¬F w.heap.size:=fun h=>by have:=s.out _ h;omega
 have D:¬F (w.heap.size+1):=fun h=>by have:=s.out _ h;omega
 go_enter Tryz.func186,Tryz.ntmps186
 go_wp2_with (go_at_call 80;refine(J.out _ kp).mono ?_;rintro e w1 ⟨rfl,t,N⟩;have O:=t.size;simp only[ak]at O;have s:=t.cell (a:=⟨w.heap.size,1,none⟩) T (v:=.int .u8 r.top) (by simp);have U:=t.cell (a:=⟨w.heap.size+1,0,none⟩) D (v:=.int .u8 0) (by simp);have V:=t.cell (a:=⟨w.heap.size+1,1,none⟩) D (v:=.int .u32 0) (by simp);have s:=fun o:Nat=>t.frozen (a:=⟨w.heap.size+1,o,none⟩) (by simp) D (by simp);have Q:w.heap.size+1<w1.heap.size:=(by omega);have s:w.heap.size<w1.heap.size:=(by omega))
 refine an (v:=.tuple #[.agg #[.int .u8 0,.int .u32 id],.int .u8 0]) (by simp[results,Tryz.results186,go_sem,Q,U,V]) rfl ⟨rfl,_,w1,?_,t,N,?_⟩
 ·(exact kp)
 ·(have s:(w.alloc (.cells #[.int .u8 r.ad,.int .u8 r.top,.int .u8 r.J,.int .u8 r.lo.tag,.int .u32 r.lo.to,.int .u8 r.hi.tag,.int .u32 r.hi.to] 134)).heap.size=w.heap.size+1:=by simp);(try simp only[ak]);(repeat (first|with_reducible exact af.refl _ _|refine af.setCell ?_ (Or.inl (by dsimp only;omega)) _|with_reducible refine af.drewN ?_ _|with_reducible refine af.drew ?_|with_reducible refine af.alloc ?_ _))
theorem rB {F:Nat→Prop}(sb:Nat)(r:Rec)(id u:Int)(X:u≠0)(w:World)(Y:sb<w.heap.size)(J:∀k,F k→k<w.heap.size)(R:World→World→Prop)
  (I:∀s,ae w s→Calls Tryz.prog 80 #[.pointer (some ⟨sb,0,none⟩),.agg #[.int .u8 r.ad,.int .u8 r.top,.int .u8 r.J,.int .u8 r.lo.tag,.int .u32 r.lo.to,.int .u8 r.hi.tag,.int .u32 r.hi.to]] s fun e z=>e=.returned (.tuple #[.int .u32 id,.int .u8 u])∧af F s z∧R s z) :
  Calls Tryz.prog 186 #[.pointer (some ⟨sb,0,none⟩),.agg #[.int .u8 r.ad,.int .u8 r.top,.int .u8 r.J,.int .u8 r.lo.tag,.int .u32 r.lo.to,.int .u8 r.hi.tag,.int .u32 r.hi.to]] w fun e z=>e=.returned (.tuple #[.agg #[.int .u8 0,.int .u32 0],.int .u8 u]) ∧
   ∃s D,ae w s∧af F s D∧R s D∧af (fun k=>w.heap.size≤k∧k<s.heap.size) D z:=by
 have N:=aa I
 have s:=aa J
 clear I J
 have U:¬F w.heap.size:=fun h=>by have:=s.out _ h;omega
 have E:¬F (w.heap.size+1):=fun h=>by have:=s.out _ h;omega
 go_enter Tryz.func186,Tryz.ntmps186
 go_wp2_with (go_at_call 80;refine(N.out _ kp).mono ?_;rintro e w1 ⟨rfl,t,O⟩;have Q:=t.size;simp only[ak]at Q;have s:=t.cell (a:=⟨w.heap.size,1,none⟩) U (v:=.int .u8 r.top) (by simp);have V:=t.cell (a:=⟨w.heap.size+1,0,none⟩) E (v:=.int .u8 0) (by simp);have W:=t.cell (a:=⟨w.heap.size+1,1,none⟩) E (v:=.int .u32 0) (by simp);have s:=fun o:Nat=>t.frozen (a:=⟨w.heap.size+1,o,none⟩) (by simp) E (by simp);have T:w.heap.size+1<w1.heap.size:=(by omega);have s:w.heap.size<w1.heap.size:=(by omega))
 refine an (v:=.tuple #[.agg #[.int .u8 0,.int .u32 0],.int .u8 u]) (by simp[results,Tryz.results186,go_sem,T,V,W]) rfl ⟨rfl,_,w1,?_,t,O,?_⟩
 ·(exact kp)
 ·(have s:(w.alloc (.cells #[.int .u8 r.ad,.int .u8 r.top,.int .u8 r.J,.int .u8 r.lo.tag,.int .u32 r.lo.to,.int .u8 r.hi.tag,.int .u32 r.hi.to] 134)).heap.size=w.heap.size+1:=by simp);(try simp only[ak]);(repeat (first|with_reducible exact af.refl _ _|refine af.setCell ?_ (Or.inl (by dsimp only;omega)) _|with_reducible refine af.drewN ?_ _|with_reducible refine af.drew ?_|with_reducible refine af.alloc ?_ _))
theorem Ay {F:Nat→Prop}(sb:Nat)(r:Rec)(id:Int)(w:World)(W:sb<w.heap.size)(I:∀k,F k→k<w.heap.size)(R:World→World→Prop)
  (E:∀s,ae w s→Calls Tryz.prog 80 #[.pointer (some ⟨sb,0,none⟩),.agg #[.int .u8 r.ad,.int .u8 r.top,.int .u8 r.J,.int .u8 r.lo.tag,.int .u32 r.lo.to,.int .u8 r.hi.tag,.int .u32 r.hi.to]] s fun e u=>e=.returned (.tuple #[.int .u32 id,.int .u8 0])∧af F s u∧R s u) :
  Calls Tryz.prog 187 #[.pointer (some ⟨sb,0,none⟩),.agg #[.int .u8 r.ad,.int .u8 r.top,.int .u8 r.J,.int .u8 r.lo.tag,.int .u32 r.lo.to,.int .u8 r.hi.tag,.int .u32 r.hi.to]] w fun e u=>e=.returned (.tuple #[.agg #[.int .u8 0,.int .u32 id],.int .u8 0]) ∧
   ∃s z,ae w s∧af F s z∧R s z∧af (fun k=>w.heap.size≤k∧k<s.heap.size) z u:=by
 have J:=aa E
 have s:=aa I
 clear E I
 have T:¬F w.heap.size:=fun h=>by have:=s.out _ h;omega
 have D:¬F (w.heap.size+1):=fun h=>by have:=s.out _ h;omega
 go_enter Tryz.func187,Tryz.ntmps187
 go_wp2_with (go_at_call 80;refine(J.out _ kp).mono ?_;rintro e w1 ⟨rfl,t,N⟩;have O:=t.size;simp only[ak]at O;have s:=t.cell (a:=⟨w.heap.size,1,none⟩) T (v:=.int .u8 r.top) (by simp);have U:=t.cell (a:=⟨w.heap.size+1,0,none⟩) D (v:=.int .u8 0) (by simp);have V:=t.cell (a:=⟨w.heap.size+1,1,none⟩) D (v:=.int .u32 0) (by simp);have s:=fun o:Nat=>t.frozen (a:=⟨w.heap.size+1,o,none⟩) (by simp) D (by simp);have Q:w.heap.size+1<w1.heap.size:=(by omega);have s:w.heap.size<w1.heap.size:=(by omega))
 refine an (v:=.tuple #[.agg #[.int .u8 0,.int .u32 id],.int .u8 0]) (by simp[results,Tryz.results187,go_sem,Q,U,V]) rfl ⟨rfl,_,w1,?_,t,N,?_⟩
 ·(exact kp)
 ·(have s:(w.alloc (.cells #[.int .u8 r.ad,.int .u8 r.top,.int .u8 r.J,.int .u8 r.lo.tag,.int .u32 r.lo.to,.int .u8 r.hi.tag,.int .u32 r.hi.to] 134)).heap.size=w.heap.size+1:=by simp);(try simp only[ak]);(repeat (first|with_reducible exact af.refl _ _|refine af.setCell ?_ (Or.inl (by dsimp only;omega)) _|with_reducible refine af.drewN ?_ _|with_reducible refine af.drew ?_|with_reducible refine af.alloc ?_ _))
theorem Ax {F:Nat→Prop}(sb:Nat)(r:Rec)(id u:Int)(X:u≠0)(w:World)(Y:sb<w.heap.size)(J:∀k,F k→k<w.heap.size)(R:World→World→Prop)
  (I:∀s,ae w s→Calls Tryz.prog 80 #[.pointer (some ⟨sb,0,none⟩),.agg #[.int .u8 r.ad,.int .u8 r.top,.int .u8 r.J,.int .u8 r.lo.tag,.int .u32 r.lo.to,.int .u8 r.hi.tag,.int .u32 r.hi.to]] s fun e z=>e=.returned (.tuple #[.int .u32 id,.int .u8 u])∧af F s z∧R s z) :
  Calls Tryz.prog 187 #[.pointer (some ⟨sb,0,none⟩),.agg #[.int .u8 r.ad,.int .u8 r.top,.int .u8 r.J,.int .u8 r.lo.tag,.int .u32 r.lo.to,.int .u8 r.hi.tag,.int .u32 r.hi.to]] w fun e z=>e=.returned (.tuple #[.agg #[.int .u8 0,.int .u32 0],.int .u8 u]) ∧
   ∃s D,ae w s∧af F s D∧R s D∧af (fun k=>w.heap.size≤k∧k<s.heap.size) D z:=by
 have N:=aa I
 have s:=aa J
 clear I J
 have U:¬F w.heap.size:=fun h=>by have:=s.out _ h;omega
 have E:¬F (w.heap.size+1):=fun h=>by have:=s.out _ h;omega
 go_enter Tryz.func187,Tryz.ntmps187
 go_wp2_with (go_at_call 80;refine(N.out _ kp).mono ?_;rintro e w1 ⟨rfl,t,O⟩;have Q:=t.size;simp only[ak]at Q;have s:=t.cell (a:=⟨w.heap.size,1,none⟩) U (v:=.int .u8 r.top) (by simp);have V:=t.cell (a:=⟨w.heap.size+1,0,none⟩) E (v:=.int .u8 0) (by simp);have W:=t.cell (a:=⟨w.heap.size+1,1,none⟩) E (v:=.int .u32 0) (by simp);have s:=fun o:Nat=>t.frozen (a:=⟨w.heap.size+1,o,none⟩) (by simp) E (by simp);have T:w.heap.size+1<w1.heap.size:=(by omega);have s:w.heap.size<w1.heap.size:=(by omega))
 refine an (v:=.tuple #[.agg #[.int .u8 0,.int .u32 0],.int .u8 u]) (by simp[results,Tryz.results187,go_sem,T,V,W]) rfl ⟨rfl,_,w1,?_,t,O,?_⟩
 ·(exact kp)
 ·(have s:(w.alloc (.cells #[.int .u8 r.ad,.int .u8 r.top,.int .u8 r.J,.int .u8 r.lo.tag,.int .u32 r.lo.to,.int .u8 r.hi.tag,.int .u32 r.hi.to] 134)).heap.size=w.heap.size+1:=by simp);(try simp only[ak]);(repeat (first|with_reducible exact af.refl _ _|refine af.setCell ?_ (Or.inl (by dsimp only;omega)) _|with_reducible refine af.drewN ?_ _|with_reducible refine af.drew ?_|with_reducible refine af.alloc ?_ _))
end Go.Proofs.YtafkamlhimkbmaaGreat
