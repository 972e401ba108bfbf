/-
  canon.View and ramageref17.View over the state (printed by wip/mk_kview.py).
-/
import Derived.Test.YtafkamlhimkbmaaGreatPNextP
import Derived.Test.YtafkamlhimkbmaaGreatPRightQ
import Derived.Test.YtafkamlhimkbmaaGreatPUnfBase
import Derived.Test.YtafkamlhimkbmaaGreatPVSA
namespace Go.Proofs.YtafkamlhimkbmaaGreat
set_option maxRecDepth 1000000
set_option maxHeartbeats 8000000
set_option linter.unusedSimpArgs false
set_option linter.unusedVariables false
open Go.RowKit

def eh (M:St)(f:Int)(e:Edge)(l:Int):(Edge×Edge×Int) ⊕ Rec:=
 if f=1 then af M 1 e l else if f=2 then af M 2 e l else if f=3 then af M 3 e l else if f=4 then af M 4 e l else if f=5 then af M 5 e l else .inl (⟨0,0⟩,⟨0,0⟩,4)

theorem wK {F:Nat→Prop}(R:World→World→Prop)(J:Nat)(l z:Int)(v lo hi:Edge)(w:World)(ad:J<w.heap.size)(N:∀k,F k→k<w.heap.size)
  (L:∀j,aa w j→Calls Tryz.prog 267 #[.pointer (some ⟨J,0,none⟩),.agg #[.int .u8 v.tag,.int .u32 v.to],.int .i64 l] j fun e s=>e=.returned (.tuple #[.agg #[.int .u8 lo.tag,.int .u32 lo.to],.agg #[.int .u8 hi.tag,.int .u32 hi.to],.int .u8 z])∧ae F j s∧R j s) :
  Calls Tryz.prog 258 #[.pointer (some ⟨J,0,none⟩),.int .u8 1,.agg #[.int .u8 v.tag,.int .u32 v.to],.int .i64 l] w fun e s=>e=.returned (.tuple #[.agg #[.int .u8 lo.tag,.int .u32 lo.to],.agg #[.int .u8 hi.tag,.int .u32 hi.to],.int .u8 z]) ∧
   ∃j t,aa w j∧ae F j t∧R j t∧ae (fun k=>w.heap.size≤k∧k<j.heap.size) t s:=by
 have O:=Lib.hid L
 have j:∀k,w.heap.size≤k→¬F k:=fun k A h=>by have:=N k h;omega
 have E:=j (w.heap.size+1) (by omega)
 have I:=j (w.heap.size+2) (by omega)
 clear L N j
 go_enter Tryz.func258,Tryz.ntmps258
 go_wp2_with (go_at_call 267;refine(O.out _ (by(exact kp))).mono ?_;rintro e K ⟨rfl,q,S⟩;have T:=q.size;(try simp only[World.size_alloc,World.size_setCell,World.a3]at T);have X:=q.cell (a:=⟨w.heap.size+1,0,none⟩) E (v:=.int .u8 0) (by simp[go_sem]);have Y:=q.cell (a:=⟨w.heap.size+1,1,none⟩) E (v:=.int .u32 0) (by simp[go_sem]);have j:=fun o:Nat=>q.frozen (a:=⟨w.heap.size+1,o,none⟩) (by simp[go_sem]) E (by simp[go_sem]);have Z:=q.cell (a:=⟨w.heap.size+2,0,none⟩) I (v:=.int .u8 0) (by simp[go_sem]);have ab:=q.cell (a:=⟨w.heap.size+2,1,none⟩) I (v:=.int .u32 0) (by simp[go_sem]);have j:=fun o:Nat=>q.frozen (a:=⟨w.heap.size+2,o,none⟩) (by simp[go_sem]) I (by simp[go_sem]);have U:w.heap.size+1<K.heap.size:=(by omega);have W:w.heap.size+2<K.heap.size:=(by omega))
 all_goals refine bodyPost_ret (v:=.tuple #[.agg #[.int .u8 lo.tag,.int .u32 lo.to],.agg #[.int .u8 hi.tag,.int .u32 hi.to],.int .u8 z]) (by simp[results,Tryz.results258,go_sem,U,W,X,Y,Z,ab]) rfl ⟨rfl,_,K,by(exact kp),q,S,?_⟩
 all_goals(try simp only[World.size_alloc,World.size_setCell,World.a3])
 all_goals(repeat (first|with_reducible exact ae.refl _ _|exact ae.mono j (fun k _ A=>⟨A.1,by(try simp only[World.size_alloc,World.size_setCell,World.a3]);have:=A.2;omega⟩)|refine ae.setCell ?_ (Or.inl (by dsimp only;omega)) _|refine ae.setCell ?_ (Or.inr (by dsimp only;omega)) _|with_reducible refine ae.drewN ?_ _|with_reducible refine ae.drew ?_|with_reducible refine ae.alloc ?_ _))

theorem wP {F:Nat→Prop}(R:World→World→Prop)(J:Nat)(l z:Int)(v lo hi:Edge)(w:World)(ad:J<w.heap.size)(N:∀k,F k→k<w.heap.size)
  (L:∀j,aa w j→Calls Tryz.prog 268 #[.pointer (some ⟨J,0,none⟩),.agg #[.int .u8 v.tag,.int .u32 v.to],.int .i64 l] j fun e s=>e=.returned (.tuple #[.agg #[.int .u8 lo.tag,.int .u32 lo.to],.agg #[.int .u8 hi.tag,.int .u32 hi.to],.int .u8 z])∧ae F j s∧R j s) :
  Calls Tryz.prog 258 #[.pointer (some ⟨J,0,none⟩),.int .u8 2,.agg #[.int .u8 v.tag,.int .u32 v.to],.int .i64 l] w fun e s=>e=.returned (.tuple #[.agg #[.int .u8 lo.tag,.int .u32 lo.to],.agg #[.int .u8 hi.tag,.int .u32 hi.to],.int .u8 z]) ∧
   ∃j t,aa w j∧ae F j t∧R j t∧ae (fun k=>w.heap.size≤k∧k<j.heap.size) t s:=by
 have O:=Lib.hid L
 have j:∀k,w.heap.size≤k→¬F k:=fun k A h=>by have:=N k h;omega
 have E:=j (w.heap.size+1) (by omega)
 have I:=j (w.heap.size+2) (by omega)
 clear L N j
 go_enter Tryz.func258,Tryz.ntmps258
 go_wp2_with (go_at_call 268;refine(O.out _ (by(exact kp))).mono ?_;rintro e K ⟨rfl,q,S⟩;have T:=q.size;(try simp only[World.size_alloc,World.size_setCell,World.a3]at T);have X:=q.cell (a:=⟨w.heap.size+1,0,none⟩) E (v:=.int .u8 0) (by simp[go_sem]);have Y:=q.cell (a:=⟨w.heap.size+1,1,none⟩) E (v:=.int .u32 0) (by simp[go_sem]);have j:=fun o:Nat=>q.frozen (a:=⟨w.heap.size+1,o,none⟩) (by simp[go_sem]) E (by simp[go_sem]);have Z:=q.cell (a:=⟨w.heap.size+2,0,none⟩) I (v:=.int .u8 0) (by simp[go_sem]);have ab:=q.cell (a:=⟨w.heap.size+2,1,none⟩) I (v:=.int .u32 0) (by simp[go_sem]);have j:=fun o:Nat=>q.frozen (a:=⟨w.heap.size+2,o,none⟩) (by simp[go_sem]) I (by simp[go_sem]);have U:w.heap.size+1<K.heap.size:=(by omega);have W:w.heap.size+2<K.heap.size:=(by omega))
 all_goals refine bodyPost_ret (v:=.tuple #[.agg #[.int .u8 lo.tag,.int .u32 lo.to],.agg #[.int .u8 hi.tag,.int .u32 hi.to],.int .u8 z]) (by simp[results,Tryz.results258,go_sem,U,W,X,Y,Z,ab]) rfl ⟨rfl,_,K,by(exact kp),q,S,?_⟩
 all_goals(try simp only[World.size_alloc,World.size_setCell,World.a3])
 all_goals(repeat (first|with_reducible exact ae.refl _ _|exact ae.mono j (fun k _ A=>⟨A.1,by(try simp only[World.size_alloc,World.size_setCell,World.a3]);have:=A.2;omega⟩)|refine ae.setCell ?_ (Or.inl (by dsimp only;omega)) _|refine ae.setCell ?_ (Or.inr (by dsimp only;omega)) _|with_reducible refine ae.drewN ?_ _|with_reducible refine ae.drew ?_|with_reducible refine ae.alloc ?_ _))

theorem wL {F:Nat→Prop}(R:World→World→Prop)(J:Nat)(l z:Int)(v lo hi:Edge)(w:World)(ad:J<w.heap.size)(N:∀k,F k→k<w.heap.size)
  (L:∀j,aa w j→Calls Tryz.prog 269 #[.pointer (some ⟨J,0,none⟩),.agg #[.int .u8 v.tag,.int .u32 v.to],.int .i64 l] j fun e s=>e=.returned (.tuple #[.agg #[.int .u8 lo.tag,.int .u32 lo.to],.agg #[.int .u8 hi.tag,.int .u32 hi.to],.int .u8 z])∧ae F j s∧R j s) :
  Calls Tryz.prog 258 #[.pointer (some ⟨J,0,none⟩),.int .u8 3,.agg #[.int .u8 v.tag,.int .u32 v.to],.int .i64 l] w fun e s=>e=.returned (.tuple #[.agg #[.int .u8 lo.tag,.int .u32 lo.to],.agg #[.int .u8 hi.tag,.int .u32 hi.to],.int .u8 z]) ∧
   ∃j t,aa w j∧ae F j t∧R j t∧ae (fun k=>w.heap.size≤k∧k<j.heap.size) t s:=by
 have O:=Lib.hid L
 have j:∀k,w.heap.size≤k→¬F k:=fun k A h=>by have:=N k h;omega
 have E:=j (w.heap.size+1) (by omega)
 have I:=j (w.heap.size+2) (by omega)
 clear L N j
 go_enter Tryz.func258,Tryz.ntmps258
 go_wp2_with (go_at_call 269;refine(O.out _ (by(exact kp))).mono ?_;rintro e K ⟨rfl,q,S⟩;have T:=q.size;(try simp only[World.size_alloc,World.size_setCell,World.a3]at T);have X:=q.cell (a:=⟨w.heap.size+1,0,none⟩) E (v:=.int .u8 0) (by simp[go_sem]);have Y:=q.cell (a:=⟨w.heap.size+1,1,none⟩) E (v:=.int .u32 0) (by simp[go_sem]);have j:=fun o:Nat=>q.frozen (a:=⟨w.heap.size+1,o,none⟩) (by simp[go_sem]) E (by simp[go_sem]);have Z:=q.cell (a:=⟨w.heap.size+2,0,none⟩) I (v:=.int .u8 0) (by simp[go_sem]);have ab:=q.cell (a:=⟨w.heap.size+2,1,none⟩) I (v:=.int .u32 0) (by simp[go_sem]);have j:=fun o:Nat=>q.frozen (a:=⟨w.heap.size+2,o,none⟩) (by simp[go_sem]) I (by simp[go_sem]);have U:w.heap.size+1<K.heap.size:=(by omega);have W:w.heap.size+2<K.heap.size:=(by omega))
 all_goals refine bodyPost_ret (v:=.tuple #[.agg #[.int .u8 lo.tag,.int .u32 lo.to],.agg #[.int .u8 hi.tag,.int .u32 hi.to],.int .u8 z]) (by simp[results,Tryz.results258,go_sem,U,W,X,Y,Z,ab]) rfl ⟨rfl,_,K,by(exact kp),q,S,?_⟩
 all_goals(try simp only[World.size_alloc,World.size_setCell,World.a3])
 all_goals(repeat (first|with_reducible exact ae.refl _ _|exact ae.mono j (fun k _ A=>⟨A.1,by(try simp only[World.size_alloc,World.size_setCell,World.a3]);have:=A.2;omega⟩)|refine ae.setCell ?_ (Or.inl (by dsimp only;omega)) _|refine ae.setCell ?_ (Or.inr (by dsimp only;omega)) _|with_reducible refine ae.drewN ?_ _|with_reducible refine ae.drew ?_|with_reducible refine ae.alloc ?_ _))

theorem wN {F:Nat→Prop}(R:World→World→Prop)(J:Nat)(l z:Int)(v lo hi:Edge)(w:World)(ad:J<w.heap.size)(N:∀k,F k→k<w.heap.size)
  (L:∀j,aa w j→Calls Tryz.prog 270 #[.pointer (some ⟨J,0,none⟩),.agg #[.int .u8 v.tag,.int .u32 v.to],.int .i64 l] j fun e s=>e=.returned (.tuple #[.agg #[.int .u8 lo.tag,.int .u32 lo.to],.agg #[.int .u8 hi.tag,.int .u32 hi.to],.int .u8 z])∧ae F j s∧R j s) :
  Calls Tryz.prog 258 #[.pointer (some ⟨J,0,none⟩),.int .u8 4,.agg #[.int .u8 v.tag,.int .u32 v.to],.int .i64 l] w fun e s=>e=.returned (.tuple #[.agg #[.int .u8 lo.tag,.int .u32 lo.to],.agg #[.int .u8 hi.tag,.int .u32 hi.to],.int .u8 z]) ∧
   ∃j t,aa w j∧ae F j t∧R j t∧ae (fun k=>w.heap.size≤k∧k<j.heap.size) t s:=by
 have O:=Lib.hid L
 have j:∀k,w.heap.size≤k→¬F k:=fun k A h=>by have:=N k h;omega
 have E:=j (w.heap.size+1) (by omega)
 have I:=j (w.heap.size+2) (by omega)
 clear L N j
 go_enter Tryz.func258,Tryz.ntmps258
 go_wp2_with (go_at_call 270;refine(O.out _ (by(exact kp))).mono ?_;rintro e K ⟨rfl,q,S⟩;have T:=q.size;(try simp only[World.size_alloc,World.size_setCell,World.a3]at T);have X:=q.cell (a:=⟨w.heap.size+1,0,none⟩) E (v:=.int .u8 0) (by simp[go_sem]);have Y:=q.cell (a:=⟨w.heap.size+1,1,none⟩) E (v:=.int .u32 0) (by simp[go_sem]);have j:=fun o:Nat=>q.frozen (a:=⟨w.heap.size+1,o,none⟩) (by simp[go_sem]) E (by simp[go_sem]);have Z:=q.cell (a:=⟨w.heap.size+2,0,none⟩) I (v:=.int .u8 0) (by simp[go_sem]);have ab:=q.cell (a:=⟨w.heap.size+2,1,none⟩) I (v:=.int .u32 0) (by simp[go_sem]);have j:=fun o:Nat=>q.frozen (a:=⟨w.heap.size+2,o,none⟩) (by simp[go_sem]) I (by simp[go_sem]);have U:w.heap.size+1<K.heap.size:=(by omega);have W:w.heap.size+2<K.heap.size:=(by omega))
 all_goals refine bodyPost_ret (v:=.tuple #[.agg #[.int .u8 lo.tag,.int .u32 lo.to],.agg #[.int .u8 hi.tag,.int .u32 hi.to],.int .u8 z]) (by simp[results,Tryz.results258,go_sem,U,W,X,Y,Z,ab]) rfl ⟨rfl,_,K,by(exact kp),q,S,?_⟩
 all_goals(try simp only[World.size_alloc,World.size_setCell,World.a3])
 all_goals(repeat (first|with_reducible exact ae.refl _ _|exact ae.mono j (fun k _ A=>⟨A.1,by(try simp only[World.size_alloc,World.size_setCell,World.a3]);have:=A.2;omega⟩)|refine ae.setCell ?_ (Or.inl (by dsimp only;omega)) _|refine ae.setCell ?_ (Or.inr (by dsimp only;omega)) _|with_reducible refine ae.drewN ?_ _|with_reducible refine ae.drew ?_|with_reducible refine ae.alloc ?_ _))

theorem wO {F:Nat→Prop}(R:World→World→Prop)(J:Nat)(l z:Int)(v lo hi:Edge)(w:World)(ad:J<w.heap.size)(N:∀k,F k→k<w.heap.size)
  (L:∀j,aa w j→Calls Tryz.prog 271 #[.pointer (some ⟨J,0,none⟩),.agg #[.int .u8 v.tag,.int .u32 v.to],.int .i64 l] j fun e s=>e=.returned (.tuple #[.agg #[.int .u8 lo.tag,.int .u32 lo.to],.agg #[.int .u8 hi.tag,.int .u32 hi.to],.int .u8 z])∧ae F j s∧R j s) :
  Calls Tryz.prog 258 #[.pointer (some ⟨J,0,none⟩),.int .u8 5,.agg #[.int .u8 v.tag,.int .u32 v.to],.int .i64 l] w fun e s=>e=.returned (.tuple #[.agg #[.int .u8 lo.tag,.int .u32 lo.to],.agg #[.int .u8 hi.tag,.int .u32 hi.to],.int .u8 z]) ∧
   ∃j t,aa w j∧ae F j t∧R j t∧ae (fun k=>w.heap.size≤k∧k<j.heap.size) t s:=by
 have O:=Lib.hid L
 have j:∀k,w.heap.size≤k→¬F k:=fun k A h=>by have:=N k h;omega
 have E:=j (w.heap.size+1) (by omega)
 have I:=j (w.heap.size+2) (by omega)
 clear L N j
 go_enter Tryz.func258,Tryz.ntmps258
 go_wp2_with (go_at_call 271;refine(O.out _ (by(exact kp))).mono ?_;rintro e K ⟨rfl,q,S⟩;have T:=q.size;(try simp only[World.size_alloc,World.size_setCell,World.a3]at T);have X:=q.cell (a:=⟨w.heap.size+1,0,none⟩) E (v:=.int .u8 0) (by simp[go_sem]);have Y:=q.cell (a:=⟨w.heap.size+1,1,none⟩) E (v:=.int .u32 0) (by simp[go_sem]);have j:=fun o:Nat=>q.frozen (a:=⟨w.heap.size+1,o,none⟩) (by simp[go_sem]) E (by simp[go_sem]);have Z:=q.cell (a:=⟨w.heap.size+2,0,none⟩) I (v:=.int .u8 0) (by simp[go_sem]);have ab:=q.cell (a:=⟨w.heap.size+2,1,none⟩) I (v:=.int .u32 0) (by simp[go_sem]);have j:=fun o:Nat=>q.frozen (a:=⟨w.heap.size+2,o,none⟩) (by simp[go_sem]) I (by simp[go_sem]);have U:w.heap.size+1<K.heap.size:=(by omega);have W:w.heap.size+2<K.heap.size:=(by omega))
 all_goals refine bodyPost_ret (v:=.tuple #[.agg #[.int .u8 lo.tag,.int .u32 lo.to],.agg #[.int .u8 hi.tag,.int .u32 hi.to],.int .u8 z]) (by simp[results,Tryz.results258,go_sem,U,W,X,Y,Z,ab]) rfl ⟨rfl,_,K,by(exact kp),q,S,?_⟩
 all_goals(try simp only[World.size_alloc,World.size_setCell,World.a3])
 all_goals(repeat (first|with_reducible exact ae.refl _ _|exact ae.mono j (fun k _ A=>⟨A.1,by(try simp only[World.size_alloc,World.size_setCell,World.a3]);have:=A.2;omega⟩)|refine ae.setCell ?_ (Or.inl (by dsimp only;omega)) _|refine ae.setCell ?_ (Or.inr (by dsimp only;omega)) _|with_reducible refine ae.drewN ?_ _|with_reducible refine ae.drew ?_|with_reducible refine ae.alloc ?_ _))

theorem wM (A:Nat)(f l:Int)(v:Edge)(w:World)(I:A<w.heap.size)(j:f≠1)(q:f≠2)(s:f≠3)(t:f≠4)(z:f≠5) :
  Calls Tryz.prog 258 #[.pointer (some ⟨A,0,none⟩),.int .u8 f,.agg #[.int .u8 v.tag,.int .u32 v.to],.int .i64 l] w fun e E=>e=.returned (.tuple #[.agg #[.int .u8 0,.int .u32 0],.agg #[.int .u8 0,.int .u32 0],.int .u8 4])∧aa w E:=by
 have A:(f==1)=false:=by simp[j]
 have A:(f==2)=false:=by simp[q]
 have A:(f==3)=false:=by simp[s]
 have A:(f==4)=false:=by simp[t]
 have A:(f==5)=false:=by simp[z]
 clear j q s t z
 go_enter Tryz.func258,Tryz.ntmps258
 go_wp2
 (try go_region)
 all_goals(try go_wp2)
 all_goals refine bodyPost_ret (v:=.tuple #[.agg #[.int .u8 0,.int .u32 0],.agg #[.int .u8 0,.int .u32 0],.int .u8 4]) (by simp[results,Tryz.results258,go_sem]) rfl ⟨rfl,by(exact kp)⟩

theorem lH {F:Nat→Prop}{w:World}{s:Nat}{M:St}(h:ag F w s M)(f:Int)(e:Edge)(l:Int)(L:e.ok) :
  Calls Tryz.prog 258 #[.pointer (some ⟨s,0,none⟩),.int .u8 f,.agg #[.int .u8 e.tag,.int .u32 e.to],.int .i64 l] w fun r K=>
   r=.returned (.tuple #[.agg #[.int .u8 (bK M (eh M f e l)).tag,.int .u32 (bK M (eh M f e l)).to],.agg #[.int .u8 (bf M f (eh M f e l)).tag,.int .u32 (bf M f (eh M f e l)).to],.int .u8 (bQ M (eh M f e l))])∧ae F w K∧ag (ao F w K) K s (bN M (eh M f e l)):=by
 by_cases N:f=1
 ·subst N;have t:eh M 1 e l=af M 1 e l:=rfl;rw[t];refine(wK (fun j q=>ag (ao F j q) q s (bN M (af M 1 e l))) s l _ e _ _ w h.pos h.lt (fun j z=>sA (h.U z) e l L)).mono ?_;rintro r K ⟨rfl,j,q,A,E,I,J⟩;exact⟨rfl,I.after h.lt A E J⟩
 by_cases O:f=2
 ·subst O;have t:eh M 2 e l=af M 2 e l:=rfl;rw[t];refine(wP (fun j q=>ag (ao F j q) q s (bN M (af M 2 e l))) s l _ e _ _ w h.pos h.lt (fun j z=>Cu (h.U z) e l L)).mono ?_;rintro r K ⟨rfl,j,q,A,E,I,J⟩;exact⟨rfl,I.after h.lt A E J⟩
 by_cases S:f=3
 ·subst S;have t:eh M 3 e l=af M 3 e l:=rfl;rw[t];refine(wL (fun j q=>ag (ao F j q) q s (bN M (af M 3 e l))) s l _ e _ _ w h.pos h.lt (fun j z=>tE (h.U z) e l L)).mono ?_;rintro r K ⟨rfl,j,q,A,E,I,J⟩;exact⟨rfl,I.after h.lt A E J⟩
 by_cases T:f=4
 ·subst T;have t:eh M 4 e l=af M 4 e l:=rfl;rw[t];refine(wN (fun j q=>ag (ao F j q) q s (bN M (af M 4 e l))) s l _ e _ _ w h.pos h.lt (fun j z=>uk (h.U z) e l L)).mono ?_;rintro r K ⟨rfl,j,q,A,E,I,J⟩;exact⟨rfl,I.after h.lt A E J⟩
 by_cases U:f=5
 ·subst U;have t:eh M 5 e l=af M 5 e l:=rfl;rw[t];refine(wO (fun j q=>ag (ao F j q) q s (bN M (af M 5 e l))) s l _ e _ _ w h.pos h.lt (fun j z=>AQ (h.U z) e l L)).mono ?_;rintro r K ⟨rfl,j,q,A,E,I,J⟩;exact⟨rfl,I.after h.lt A E J⟩
 have t:eh M f e l=.inl (⟨0,0⟩,⟨0,0⟩,4):=by unfold eh;rw[if_neg N,if_neg O,if_neg S,if_neg T,if_neg U]
 rw[t]
 exact(wM s f l e w h.pos N O S T U).mono fun r K j=>⟨j.1,h.a8 j.2⟩

noncomputable def gN (M:St)(f:Int)(e:Edge)(l:Int):Bool:=
 if f=1 then M.leads 1 e l else if f=2 then M.leads 2 e l else if f=3 then ba M 3 e l else if f=4 then ba M 4 e l else if f=5 then ba M 5 e l else false

theorem sy {F:Nat→Prop}{w:World}{s:Nat}{M:St}(h:ag F w s M)(v:Edge)(l:Int)(z:v.ok) :
  Calls Tryz.prog 149 #[.pointer (some ⟨s,0,none⟩),.agg #[.int .u8 v.tag,.int .u32 v.to],.int .i64 l] w fun r t=>r=.returned (.bool (M.leads 1 v l))∧aa w t:=by
 have j:=Lib.hid (fun(s:World) (t:aa w s)=>cV (h.U t) 1 v l z)
 clear h
 obtain⟨b,q⟩:∃b,b=M.leads 1 v l:=⟨_,rfl⟩
 rw[←q]at j ⊢
 clear q
 go_enter Tryz.func149,Tryz.ntmps149
 go_wp2_with fail
 refine(j.out _ (by(exact kp))).mono ?_
 rintro e w1 ⟨rfl,j⟩
 go_wp2_with fail
 go_ret
 exact⟨rfl,by(exact kp)⟩

theorem Ct {F:Nat→Prop}{w:World}{s:Nat}{M:St}(h:ag F w s M)(v:Edge)(l:Int)(z:v.ok) :
  Calls Tryz.prog 150 #[.pointer (some ⟨s,0,none⟩),.agg #[.int .u8 v.tag,.int .u32 v.to],.int .i64 l] w fun r t=>r=.returned (.bool (M.leads 2 v l))∧aa w t:=by
 have j:=Lib.hid (fun(s:World) (t:aa w s)=>cV (h.U t) 2 v l z)
 clear h
 obtain⟨b,q⟩:∃b,b=M.leads 2 v l:=⟨_,rfl⟩
 rw[←q]at j ⊢
 clear q
 go_enter Tryz.func150,Tryz.ntmps150
 go_wp2_with fail
 refine(j.out _ (by(exact kp))).mono ?_
 rintro e w1 ⟨rfl,j⟩
 go_wp2_with fail
 go_ret
 exact⟨rfl,by(exact kp)⟩

theorem wg (t:Nat)(l:Int)(b:Bool)(v:Edge)(w:World)
  (s:∀j,aa w j→Calls Tryz.prog 149 #[.pointer (some ⟨t,0,none⟩),.agg #[.int .u8 v.tag,.int .u32 v.to],.int .i64 l] j fun e q=>e=.returned (.bool b)∧aa j q) :
  Calls Tryz.prog 92 #[.pointer (some ⟨t,0,none⟩),.int .u8 1,.agg #[.int .u8 v.tag,.int .u32 v.to],.int .i64 l] w fun e q=>e=.returned (.bool b)∧aa w q:=by
 have z:=Lib.hid s
 clear s
 go_enter Tryz.func92,Tryz.ntmps92
 go_wp2_with fail
 refine(z.out _ (by(exact kp))).mono ?_
 rintro e w1 ⟨rfl,j⟩
 go_wp2_with fail
 go_ret
 exact⟨rfl,by(exact kp)⟩

theorem wv (t:Nat)(l:Int)(b:Bool)(v:Edge)(w:World)
  (s:∀j,aa w j→Calls Tryz.prog 150 #[.pointer (some ⟨t,0,none⟩),.agg #[.int .u8 v.tag,.int .u32 v.to],.int .i64 l] j fun e q=>e=.returned (.bool b)∧aa j q) :
  Calls Tryz.prog 92 #[.pointer (some ⟨t,0,none⟩),.int .u8 2,.agg #[.int .u8 v.tag,.int .u32 v.to],.int .i64 l] w fun e q=>e=.returned (.bool b)∧aa w q:=by
 have z:=Lib.hid s
 clear s
 go_enter Tryz.func92,Tryz.ntmps92
 go_wp2_with fail
 refine(z.out _ (by(exact kp))).mono ?_
 rintro e w1 ⟨rfl,j⟩
 go_wp2_with fail
 go_ret
 exact⟨rfl,by(exact kp)⟩

theorem wj (t:Nat)(l:Int)(b:Bool)(v:Edge)(w:World)
  (s:∀j,aa w j→Calls Tryz.prog 151 #[.pointer (some ⟨t,0,none⟩),.agg #[.int .u8 v.tag,.int .u32 v.to],.int .i64 l] j fun e q=>e=.returned (.bool b)∧aa j q) :
  Calls Tryz.prog 92 #[.pointer (some ⟨t,0,none⟩),.int .u8 3,.agg #[.int .u8 v.tag,.int .u32 v.to],.int .i64 l] w fun e q=>e=.returned (.bool b)∧aa w q:=by
 have z:=Lib.hid s
 clear s
 go_enter Tryz.func92,Tryz.ntmps92
 go_wp2_with fail
 refine(z.out _ (by(exact kp))).mono ?_
 rintro e w1 ⟨rfl,j⟩
 go_wp2_with fail
 go_ret
 exact⟨rfl,by(exact kp)⟩

theorem wm (t:Nat)(l:Int)(b:Bool)(v:Edge)(w:World)
  (s:∀j,aa w j→Calls Tryz.prog 152 #[.pointer (some ⟨t,0,none⟩),.agg #[.int .u8 v.tag,.int .u32 v.to],.int .i64 l] j fun e q=>e=.returned (.bool b)∧aa j q) :
  Calls Tryz.prog 92 #[.pointer (some ⟨t,0,none⟩),.int .u8 4,.agg #[.int .u8 v.tag,.int .u32 v.to],.int .i64 l] w fun e q=>e=.returned (.bool b)∧aa w q:=by
 have z:=Lib.hid s
 clear s
 go_enter Tryz.func92,Tryz.ntmps92
 go_wp2_with fail
 refine(z.out _ (by(exact kp))).mono ?_
 rintro e w1 ⟨rfl,j⟩
 go_wp2_with fail
 go_ret
 exact⟨rfl,by(exact kp)⟩

theorem wu (t:Nat)(l:Int)(b:Bool)(v:Edge)(w:World)
  (s:∀j,aa w j→Calls Tryz.prog 153 #[.pointer (some ⟨t,0,none⟩),.agg #[.int .u8 v.tag,.int .u32 v.to],.int .i64 l] j fun e q=>e=.returned (.bool b)∧aa j q) :
  Calls Tryz.prog 92 #[.pointer (some ⟨t,0,none⟩),.int .u8 5,.agg #[.int .u8 v.tag,.int .u32 v.to],.int .i64 l] w fun e q=>e=.returned (.bool b)∧aa w q:=by
 have z:=Lib.hid s
 clear s
 go_enter Tryz.func92,Tryz.ntmps92
 go_wp2_with fail
 refine(z.out _ (by(exact kp))).mono ?_
 rintro e w1 ⟨rfl,j⟩
 go_wp2_with fail
 go_ret
 exact⟨rfl,by(exact kp)⟩

theorem wk (A:Nat)(f l:Int)(v:Edge)(w:World)(j:f≠1)(q:f≠2)(s:f≠3)(t:f≠4)(z:f≠5) :
  Calls Tryz.prog 92 #[.pointer (some ⟨A,0,none⟩),.int .u8 f,.agg #[.int .u8 v.tag,.int .u32 v.to],.int .i64 l] w fun e E=>e=.returned (.bool false)∧aa w E:=by
 have A:(f==1)=false:=by simp[j]
 have A:(f==2)=false:=by simp[q]
 have A:(f==3)=false:=by simp[s]
 have A:(f==4)=false:=by simp[t]
 have A:(f==5)=false:=by simp[z]
 clear j q s t z
 go_enter Tryz.func92,Tryz.ntmps92
 go_wp2
 go_ret
 exact⟨rfl,by(exact kp)⟩

theorem oA {F:Nat→Prop}{w:World}{q:Nat}{M:St}(h:ag F w q M)(f:Int)(e:Edge)(l:Int)(s:e.ok) :
  Calls Tryz.prog 92 #[.pointer (some ⟨q,0,none⟩),.int .u8 f,.agg #[.int .u8 e.tag,.int .u32 e.to],.int .i64 l] w fun r L=>r=.returned (.bool (gN M f e l))∧aa w L:=by
 by_cases z:f=1
 ·subst z;exact wg q l _ e w (fun t j=>sy (h.U j) e l s)
 by_cases A:f=2
 ·subst A;exact wv q l _ e w (fun t j=>Ct (h.U j) e l s)
 by_cases E:f=3
 ·subst E;exact wj q l _ e w (fun t j=>tC (h.U j) e l s)
 by_cases I:f=4
 ·subst I;exact wm q l _ e w (fun t j=>uj (h.U j) e l s)
 by_cases J:f=5
 ·subst J;exact wu q l _ e w (fun t j=>AP (h.U j) e l s)
 have K:gN M f e l=false:=by unfold gN;rw[if_neg z,if_neg A,if_neg E,if_neg I,if_neg J]
 rw[K]
 exact wk q f l e w z A E I J

end Go.Proofs.YtafkamlhimkbmaaGreat
