/-
  canon.View and ramageref17.View over the state (printed by wip/mk_kview.py).
-/
import Derived.Test.YtafkamlhimkbmaaGreatPUnfA
import Derived.Test.YtafkamlhimkbmaaGreatPVSA
import Derived.Test.YtafkamlhimkbmaaGreatPWordsR
namespace Go.Proofs.YtafkamlhimkbmaaGreat
set_option maxRecDepth 1000000
set_option maxHeartbeats 8000000
set_option linter.unusedSimpArgs false
set_option linter.unusedVariables false
open Go.RowKit

def eB (M:St)(f:Int)(e:Edge)(l:Int):(Edge×Edge×Int) ⊕ Rec:=
 if f=1 then af M 1 e l else if f=2 then af M 2 e l else if f=3 then af M 3 e l else if f=4 then af M 4 e l else if f=5 then af M 5 e l else .inl (⟨0,0⟩,⟨0,0⟩,4)

theorem xl {F:Nat→Prop}(R:World→World→Prop)(I:Nat)(l t:Int)(v lo hi:Edge)(w:World)(ab:I<w.heap.size)(L:∀k,F k→k<w.heap.size)
  (K:∀j,aa w j→Calls Tryz.prog 267 #[.pointer (some ⟨I,0,none⟩),.agg #[.int .u8 v.tag,.int .u32 v.to],.int .i64 l] j fun e w'=>e=.returned (.tuple #[.agg #[.int .u8 lo.tag,.int .u32 lo.to],.agg #[.int .u8 hi.tag,.int .u32 hi.to],.int .u8 t])∧ae F j w'∧R j w') :
  Calls Tryz.prog 258 #[.pointer (some ⟨I,0,none⟩),.int .u8 1,.agg #[.int .u8 v.tag,.int .u32 v.to],.int .i64 l] w fun e w'=>e=.returned (.tuple #[.agg #[.int .u8 lo.tag,.int .u32 lo.to],.agg #[.int .u8 hi.tag,.int .u32 hi.to],.int .u8 t]) ∧
   ∃j s,aa w j∧ae F j s∧R j s∧ae (fun k=>w.heap.size≤k∧k<j.heap.size) s w':=by
 have N:=Lib.hid K
 have j:∀k,w.heap.size≤k→¬F k:=fun k z h=>by have:=L k h;omega
 have A:=j (w.heap.size+1) (by omega)
 have E:=j (w.heap.size+2) (by omega)
 clear K L j
 go_enter Tryz.func258,Tryz.ntmps258
 go_wp2_with (go_at_call 267;refine(N.out _ (by(exact kp))).mono ?_;rintro e J ⟨rfl,q,O⟩;have S:=q.size;(try simp only[World.size_alloc,World.size_setCell,World.a3]at S);have W:=q.cell (a:=⟨w.heap.size+1,0,none⟩) A (v:=.int .u8 0) (by simp[go_sem]);have X:=q.cell (a:=⟨w.heap.size+1,1,none⟩) A (v:=.int .u32 0) (by simp[go_sem]);have j:=fun o:Nat=>q.frozen (a:=⟨w.heap.size+1,o,none⟩) (by simp[go_sem]) A (by simp[go_sem]);have Y:=q.cell (a:=⟨w.heap.size+2,0,none⟩) E (v:=.int .u8 0) (by simp[go_sem]);have Z:=q.cell (a:=⟨w.heap.size+2,1,none⟩) E (v:=.int .u32 0) (by simp[go_sem]);have j:=fun o:Nat=>q.frozen (a:=⟨w.heap.size+2,o,none⟩) (by simp[go_sem]) E (by simp[go_sem]);have T:w.heap.size+1<J.heap.size:=(by omega);have U:w.heap.size+2<J.heap.size:=(by omega))
 all_goals refine bodyPost_ret (v:=.tuple #[.agg #[.int .u8 lo.tag,.int .u32 lo.to],.agg #[.int .u8 hi.tag,.int .u32 hi.to],.int .u8 t]) (by simp[results,Tryz.results258,go_sem,T,U,W,X,Y,Z]) rfl ⟨rfl,_,J,by(exact kp),q,O,?_⟩
 all_goals(try simp only[World.size_alloc,World.size_setCell,World.a3])
 all_goals(repeat (first|with_reducible exact ae.refl _ _|exact ae.mono j (fun k _ z=>⟨z.1,by(try simp only[World.size_alloc,World.size_setCell,World.a3]);have:=z.2;omega⟩)|refine ae.setCell ?_ (Or.inl (by dsimp only;omega)) _|refine ae.setCell ?_ (Or.inr (by dsimp only;omega)) _|with_reducible refine ae.drewN ?_ _|with_reducible refine ae.drew ?_|with_reducible refine ae.alloc ?_ _))

theorem xq {F:Nat→Prop}(R:World→World→Prop)(I:Nat)(l t:Int)(v lo hi:Edge)(w:World)(ab:I<w.heap.size)(L:∀k,F k→k<w.heap.size)
  (K:∀j,aa w j→Calls Tryz.prog 268 #[.pointer (some ⟨I,0,none⟩),.agg #[.int .u8 v.tag,.int .u32 v.to],.int .i64 l] j fun e w'=>e=.returned (.tuple #[.agg #[.int .u8 lo.tag,.int .u32 lo.to],.agg #[.int .u8 hi.tag,.int .u32 hi.to],.int .u8 t])∧ae F j w'∧R j w') :
  Calls Tryz.prog 258 #[.pointer (some ⟨I,0,none⟩),.int .u8 2,.agg #[.int .u8 v.tag,.int .u32 v.to],.int .i64 l] w fun e w'=>e=.returned (.tuple #[.agg #[.int .u8 lo.tag,.int .u32 lo.to],.agg #[.int .u8 hi.tag,.int .u32 hi.to],.int .u8 t]) ∧
   ∃j s,aa w j∧ae F j s∧R j s∧ae (fun k=>w.heap.size≤k∧k<j.heap.size) s w':=by
 have N:=Lib.hid K
 have j:∀k,w.heap.size≤k→¬F k:=fun k z h=>by have:=L k h;omega
 have A:=j (w.heap.size+1) (by omega)
 have E:=j (w.heap.size+2) (by omega)
 clear K L j
 go_enter Tryz.func258,Tryz.ntmps258
 go_wp2_with (go_at_call 268;refine(N.out _ (by(exact kp))).mono ?_;rintro e J ⟨rfl,q,O⟩;have S:=q.size;(try simp only[World.size_alloc,World.size_setCell,World.a3]at S);have W:=q.cell (a:=⟨w.heap.size+1,0,none⟩) A (v:=.int .u8 0) (by simp[go_sem]);have X:=q.cell (a:=⟨w.heap.size+1,1,none⟩) A (v:=.int .u32 0) (by simp[go_sem]);have j:=fun o:Nat=>q.frozen (a:=⟨w.heap.size+1,o,none⟩) (by simp[go_sem]) A (by simp[go_sem]);have Y:=q.cell (a:=⟨w.heap.size+2,0,none⟩) E (v:=.int .u8 0) (by simp[go_sem]);have Z:=q.cell (a:=⟨w.heap.size+2,1,none⟩) E (v:=.int .u32 0) (by simp[go_sem]);have j:=fun o:Nat=>q.frozen (a:=⟨w.heap.size+2,o,none⟩) (by simp[go_sem]) E (by simp[go_sem]);have T:w.heap.size+1<J.heap.size:=(by omega);have U:w.heap.size+2<J.heap.size:=(by omega))
 all_goals refine bodyPost_ret (v:=.tuple #[.agg #[.int .u8 lo.tag,.int .u32 lo.to],.agg #[.int .u8 hi.tag,.int .u32 hi.to],.int .u8 t]) (by simp[results,Tryz.results258,go_sem,T,U,W,X,Y,Z]) rfl ⟨rfl,_,J,by(exact kp),q,O,?_⟩
 all_goals(try simp only[World.size_alloc,World.size_setCell,World.a3])
 all_goals(repeat (first|with_reducible exact ae.refl _ _|exact ae.mono j (fun k _ z=>⟨z.1,by(try simp only[World.size_alloc,World.size_setCell,World.a3]);have:=z.2;omega⟩)|refine ae.setCell ?_ (Or.inl (by dsimp only;omega)) _|refine ae.setCell ?_ (Or.inr (by dsimp only;omega)) _|with_reducible refine ae.drewN ?_ _|with_reducible refine ae.drew ?_|with_reducible refine ae.alloc ?_ _))

theorem xm {F:Nat→Prop}(R:World→World→Prop)(I:Nat)(l t:Int)(v lo hi:Edge)(w:World)(ab:I<w.heap.size)(L:∀k,F k→k<w.heap.size)
  (K:∀j,aa w j→Calls Tryz.prog 269 #[.pointer (some ⟨I,0,none⟩),.agg #[.int .u8 v.tag,.int .u32 v.to],.int .i64 l] j fun e w'=>e=.returned (.tuple #[.agg #[.int .u8 lo.tag,.int .u32 lo.to],.agg #[.int .u8 hi.tag,.int .u32 hi.to],.int .u8 t])∧ae F j w'∧R j w') :
  Calls Tryz.prog 258 #[.pointer (some ⟨I,0,none⟩),.int .u8 3,.agg #[.int .u8 v.tag,.int .u32 v.to],.int .i64 l] w fun e w'=>e=.returned (.tuple #[.agg #[.int .u8 lo.tag,.int .u32 lo.to],.agg #[.int .u8 hi.tag,.int .u32 hi.to],.int .u8 t]) ∧
   ∃j s,aa w j∧ae F j s∧R j s∧ae (fun k=>w.heap.size≤k∧k<j.heap.size) s w':=by
 have N:=Lib.hid K
 have j:∀k,w.heap.size≤k→¬F k:=fun k z h=>by have:=L k h;omega
 have A:=j (w.heap.size+1) (by omega)
 have E:=j (w.heap.size+2) (by omega)
 clear K L j
 go_enter Tryz.func258,Tryz.ntmps258
 go_wp2_with (go_at_call 269;refine(N.out _ (by(exact kp))).mono ?_;rintro e J ⟨rfl,q,O⟩;have S:=q.size;(try simp only[World.size_alloc,World.size_setCell,World.a3]at S);have W:=q.cell (a:=⟨w.heap.size+1,0,none⟩) A (v:=.int .u8 0) (by simp[go_sem]);have X:=q.cell (a:=⟨w.heap.size+1,1,none⟩) A (v:=.int .u32 0) (by simp[go_sem]);have j:=fun o:Nat=>q.frozen (a:=⟨w.heap.size+1,o,none⟩) (by simp[go_sem]) A (by simp[go_sem]);have Y:=q.cell (a:=⟨w.heap.size+2,0,none⟩) E (v:=.int .u8 0) (by simp[go_sem]);have Z:=q.cell (a:=⟨w.heap.size+2,1,none⟩) E (v:=.int .u32 0) (by simp[go_sem]);have j:=fun o:Nat=>q.frozen (a:=⟨w.heap.size+2,o,none⟩) (by simp[go_sem]) E (by simp[go_sem]);have T:w.heap.size+1<J.heap.size:=(by omega);have U:w.heap.size+2<J.heap.size:=(by omega))
 all_goals refine bodyPost_ret (v:=.tuple #[.agg #[.int .u8 lo.tag,.int .u32 lo.to],.agg #[.int .u8 hi.tag,.int .u32 hi.to],.int .u8 t]) (by simp[results,Tryz.results258,go_sem,T,U,W,X,Y,Z]) rfl ⟨rfl,_,J,by(exact kp),q,O,?_⟩
 all_goals(try simp only[World.size_alloc,World.size_setCell,World.a3])
 all_goals(repeat (first|with_reducible exact ae.refl _ _|exact ae.mono j (fun k _ z=>⟨z.1,by(try simp only[World.size_alloc,World.size_setCell,World.a3]);have:=z.2;omega⟩)|refine ae.setCell ?_ (Or.inl (by dsimp only;omega)) _|refine ae.setCell ?_ (Or.inr (by dsimp only;omega)) _|with_reducible refine ae.drewN ?_ _|with_reducible refine ae.drew ?_|with_reducible refine ae.alloc ?_ _))

theorem xo {F:Nat→Prop}(R:World→World→Prop)(I:Nat)(l t:Int)(v lo hi:Edge)(w:World)(ab:I<w.heap.size)(L:∀k,F k→k<w.heap.size)
  (K:∀j,aa w j→Calls Tryz.prog 270 #[.pointer (some ⟨I,0,none⟩),.agg #[.int .u8 v.tag,.int .u32 v.to],.int .i64 l] j fun e w'=>e=.returned (.tuple #[.agg #[.int .u8 lo.tag,.int .u32 lo.to],.agg #[.int .u8 hi.tag,.int .u32 hi.to],.int .u8 t])∧ae F j w'∧R j w') :
  Calls Tryz.prog 258 #[.pointer (some ⟨I,0,none⟩),.int .u8 4,.agg #[.int .u8 v.tag,.int .u32 v.to],.int .i64 l] w fun e w'=>e=.returned (.tuple #[.agg #[.int .u8 lo.tag,.int .u32 lo.to],.agg #[.int .u8 hi.tag,.int .u32 hi.to],.int .u8 t]) ∧
   ∃j s,aa w j∧ae F j s∧R j s∧ae (fun k=>w.heap.size≤k∧k<j.heap.size) s w':=by
 have N:=Lib.hid K
 have j:∀k,w.heap.size≤k→¬F k:=fun k z h=>by have:=L k h;omega
 have A:=j (w.heap.size+1) (by omega)
 have E:=j (w.heap.size+2) (by omega)
 clear K L j
 go_enter Tryz.func258,Tryz.ntmps258
 go_wp2_with (go_at_call 270;refine(N.out _ (by(exact kp))).mono ?_;rintro e J ⟨rfl,q,O⟩;have S:=q.size;(try simp only[World.size_alloc,World.size_setCell,World.a3]at S);have W:=q.cell (a:=⟨w.heap.size+1,0,none⟩) A (v:=.int .u8 0) (by simp[go_sem]);have X:=q.cell (a:=⟨w.heap.size+1,1,none⟩) A (v:=.int .u32 0) (by simp[go_sem]);have j:=fun o:Nat=>q.frozen (a:=⟨w.heap.size+1,o,none⟩) (by simp[go_sem]) A (by simp[go_sem]);have Y:=q.cell (a:=⟨w.heap.size+2,0,none⟩) E (v:=.int .u8 0) (by simp[go_sem]);have Z:=q.cell (a:=⟨w.heap.size+2,1,none⟩) E (v:=.int .u32 0) (by simp[go_sem]);have j:=fun o:Nat=>q.frozen (a:=⟨w.heap.size+2,o,none⟩) (by simp[go_sem]) E (by simp[go_sem]);have T:w.heap.size+1<J.heap.size:=(by omega);have U:w.heap.size+2<J.heap.size:=(by omega))
 all_goals refine bodyPost_ret (v:=.tuple #[.agg #[.int .u8 lo.tag,.int .u32 lo.to],.agg #[.int .u8 hi.tag,.int .u32 hi.to],.int .u8 t]) (by simp[results,Tryz.results258,go_sem,T,U,W,X,Y,Z]) rfl ⟨rfl,_,J,by(exact kp),q,O,?_⟩
 all_goals(try simp only[World.size_alloc,World.size_setCell,World.a3])
 all_goals(repeat (first|with_reducible exact ae.refl _ _|exact ae.mono j (fun k _ z=>⟨z.1,by(try simp only[World.size_alloc,World.size_setCell,World.a3]);have:=z.2;omega⟩)|refine ae.setCell ?_ (Or.inl (by dsimp only;omega)) _|refine ae.setCell ?_ (Or.inr (by dsimp only;omega)) _|with_reducible refine ae.drewN ?_ _|with_reducible refine ae.drew ?_|with_reducible refine ae.alloc ?_ _))

theorem xp {F:Nat→Prop}(R:World→World→Prop)(I:Nat)(l t:Int)(v lo hi:Edge)(w:World)(ab:I<w.heap.size)(L:∀k,F k→k<w.heap.size)
  (K:∀j,aa w j→Calls Tryz.prog 271 #[.pointer (some ⟨I,0,none⟩),.agg #[.int .u8 v.tag,.int .u32 v.to],.int .i64 l] j fun e w'=>e=.returned (.tuple #[.agg #[.int .u8 lo.tag,.int .u32 lo.to],.agg #[.int .u8 hi.tag,.int .u32 hi.to],.int .u8 t])∧ae F j w'∧R j w') :
  Calls Tryz.prog 258 #[.pointer (some ⟨I,0,none⟩),.int .u8 5,.agg #[.int .u8 v.tag,.int .u32 v.to],.int .i64 l] w fun e w'=>e=.returned (.tuple #[.agg #[.int .u8 lo.tag,.int .u32 lo.to],.agg #[.int .u8 hi.tag,.int .u32 hi.to],.int .u8 t]) ∧
   ∃j s,aa w j∧ae F j s∧R j s∧ae (fun k=>w.heap.size≤k∧k<j.heap.size) s w':=by
 have N:=Lib.hid K
 have j:∀k,w.heap.size≤k→¬F k:=fun k z h=>by have:=L k h;omega
 have A:=j (w.heap.size+1) (by omega)
 have E:=j (w.heap.size+2) (by omega)
 clear K L j
 go_enter Tryz.func258,Tryz.ntmps258
 go_wp2_with (go_at_call 271;refine(N.out _ (by(exact kp))).mono ?_;rintro e J ⟨rfl,q,O⟩;have S:=q.size;(try simp only[World.size_alloc,World.size_setCell,World.a3]at S);have W:=q.cell (a:=⟨w.heap.size+1,0,none⟩) A (v:=.int .u8 0) (by simp[go_sem]);have X:=q.cell (a:=⟨w.heap.size+1,1,none⟩) A (v:=.int .u32 0) (by simp[go_sem]);have j:=fun o:Nat=>q.frozen (a:=⟨w.heap.size+1,o,none⟩) (by simp[go_sem]) A (by simp[go_sem]);have Y:=q.cell (a:=⟨w.heap.size+2,0,none⟩) E (v:=.int .u8 0) (by simp[go_sem]);have Z:=q.cell (a:=⟨w.heap.size+2,1,none⟩) E (v:=.int .u32 0) (by simp[go_sem]);have j:=fun o:Nat=>q.frozen (a:=⟨w.heap.size+2,o,none⟩) (by simp[go_sem]) E (by simp[go_sem]);have T:w.heap.size+1<J.heap.size:=(by omega);have U:w.heap.size+2<J.heap.size:=(by omega))
 all_goals refine bodyPost_ret (v:=.tuple #[.agg #[.int .u8 lo.tag,.int .u32 lo.to],.agg #[.int .u8 hi.tag,.int .u32 hi.to],.int .u8 t]) (by simp[results,Tryz.results258,go_sem,T,U,W,X,Y,Z]) rfl ⟨rfl,_,J,by(exact kp),q,O,?_⟩
 all_goals(try simp only[World.size_alloc,World.size_setCell,World.a3])
 all_goals(repeat (first|with_reducible exact ae.refl _ _|exact ae.mono j (fun k _ z=>⟨z.1,by(try simp only[World.size_alloc,World.size_setCell,World.a3]);have:=z.2;omega⟩)|refine ae.setCell ?_ (Or.inl (by dsimp only;omega)) _|refine ae.setCell ?_ (Or.inr (by dsimp only;omega)) _|with_reducible refine ae.drewN ?_ _|with_reducible refine ae.drew ?_|with_reducible refine ae.alloc ?_ _))

theorem xn (A:Nat)(f l:Int)(v:Edge)(w:World)(E:A<w.heap.size)(j:f≠1)(q:f≠2)(s:f≠3)(t:f≠4)(z:f≠5) :
  Calls Tryz.prog 258 #[.pointer (some ⟨A,0,none⟩),.int .u8 f,.agg #[.int .u8 v.tag,.int .u32 v.to],.int .i64 l] w fun e w'=>e=.returned (.tuple #[.agg #[.int .u8 0,.int .u32 0],.agg #[.int .u8 0,.int .u32 0],.int .u8 4])∧aa w w':=by
 have A:(f==1)=false:=by simp[j]
 have A:(f==2)=false:=by simp[q]
 have A:(f==3)=false:=by simp[s]
 have A:(f==4)=false:=by simp[t]
 have A:(f==5)=false:=by simp[z]
 clear j q s t z
 go_enter Tryz.func258,Tryz.ntmps258
 go_wp2
 (try go_region)
 all_goals(try go_wp2)
 all_goals refine bodyPost_ret (v:=.tuple #[.agg #[.int .u8 0,.int .u32 0],.agg #[.int .u8 0,.int .u32 0],.int .u8 4]) (by simp[results,Tryz.results258,go_sem]) rfl ⟨rfl,by(exact kp)⟩

theorem l4 {F:Nat→Prop}{w:World}{s:Nat}{M:St}(h:ag F w s M)(f:Int)(e:Edge)(l:Int)(K:e.ok) :
  Calls Tryz.prog 258 #[.pointer (some ⟨s,0,none⟩),.int .u8 f,.agg #[.int .u8 e.tag,.int .u32 e.to],.int .i64 l] w fun r w'=>
   r=.returned (.tuple #[.agg #[.int .u8 (bN M (eB M f e l)).tag,.int .u32 (bN M (eB M f e l)).to],.agg #[.int .u8 (bk M f (eB M f e l)).tag,.int .u32 (bk M f (eB M f e l)).to],.int .u8 (bT M (eB M f e l))])∧ae F w w'∧ag (au F w w') w' s (bQ M (eB M f e l)):=by
 by_cases L:f=1
 ·subst L;have t:eB M 1 e l=af M 1 e l:=rfl;rw[t];refine(xl (fun j q=>ag (au F j q) q s (bQ M (af M 1 e l))) s l _ e _ _ w h.pos h.lt (fun j z=>te (h.U z) e l K)).mono ?_;rintro r w' ⟨rfl,j,q,A,E,I,J⟩;exact⟨rfl,I.after h.lt A E J⟩
 by_cases N:f=2
 ·subst N;have t:eB M 2 e l=af M 2 e l:=rfl;rw[t];refine(xq (fun j q=>ag (au F j q) q s (bQ M (af M 2 e l))) s l _ e _ _ w h.pos h.lt (fun j z=>CS (h.U z) e l K)).mono ?_;rintro r w' ⟨rfl,j,q,A,E,I,J⟩;exact⟨rfl,I.after h.lt A E J⟩
 by_cases O:f=3
 ·subst O;have t:eB M 3 e l=af M 3 e l:=rfl;rw[t];refine(xm (fun j q=>ag (au F j q) q s (bQ M (af M 3 e l))) s l _ e _ _ w h.pos h.lt (fun j z=>uh (h.U z) e l K)).mono ?_;rintro r w' ⟨rfl,j,q,A,E,I,J⟩;exact⟨rfl,I.after h.lt A E J⟩
 by_cases S:f=4
 ·subst S;have t:eB M 4 e l=af M 4 e l:=rfl;rw[t];refine(xo (fun j q=>ag (au F j q) q s (bQ M (af M 4 e l))) s l _ e _ _ w h.pos h.lt (fun j z=>uR (h.U z) e l K)).mono ?_;rintro r w' ⟨rfl,j,q,A,E,I,J⟩;exact⟨rfl,I.after h.lt A E J⟩
 by_cases T:f=5
 ·subst T;have t:eB M 5 e l=af M 5 e l:=rfl;rw[t];refine(xp (fun j q=>ag (au F j q) q s (bQ M (af M 5 e l))) s l _ e _ _ w h.pos h.lt (fun j z=>Bc (h.U z) e l K)).mono ?_;rintro r w' ⟨rfl,j,q,A,E,I,J⟩;exact⟨rfl,I.after h.lt A E J⟩
 have t:eB M f e l=.inl (⟨0,0⟩,⟨0,0⟩,4):=by unfold eB;rw[if_neg L,if_neg N,if_neg O,if_neg S,if_neg T]
 rw[t]
 exact(xn s f l e w h.pos L N O S T).mono fun r w' j=>⟨j.1,h.a8 j.2⟩

noncomputable def gP (M:St)(f:Int)(e:Edge)(l:Int):Bool:=
 if f=1 then M.leads 1 e l else if f=2 then M.leads 2 e l else if f=3 then bf M 3 e l else if f=4 then bf M 4 e l else if f=5 then bf M 5 e l else false

theorem s' {F:Nat→Prop}{w:World}{s:Nat}{M:St}(h:ag F w s M)(v:Edge)(l:Int)(z:v.ok) :
  Calls Tryz.prog 149 #[.pointer (some ⟨s,0,none⟩),.agg #[.int .u8 v.tag,.int .u32 v.to],.int .i64 l] w fun r w'=>r=.returned (.bool (M.leads 1 v l))∧aa w w':=by
 have j:=Lib.hid (fun(s:World) (t:aa w s)=>cX (h.U t) 1 v l z)
 clear h
 obtain⟨b,q⟩:∃b,b=M.leads 1 v l:=⟨_,rfl⟩
 rw[←q]at j ⊢
 clear q
 go_enter Tryz.func149,Tryz.ntmps149
 go_wp2_with fail
 refine(j.out _ (by(exact kp))).mono ?_
 rintro e w1 ⟨rfl,j⟩
 go_wp2_with fail
 go_ret
 exact⟨rfl,by(exact kp)⟩

theorem CR {F:Nat→Prop}{w:World}{s:Nat}{M:St}(h:ag F w s M)(v:Edge)(l:Int)(z:v.ok) :
  Calls Tryz.prog 150 #[.pointer (some ⟨s,0,none⟩),.agg #[.int .u8 v.tag,.int .u32 v.to],.int .i64 l] w fun r w'=>r=.returned (.bool (M.leads 2 v l))∧aa w w':=by
 have j:=Lib.hid (fun(s:World) (t:aa w s)=>cX (h.U t) 2 v l z)
 clear h
 obtain⟨b,q⟩:∃b,b=M.leads 2 v l:=⟨_,rfl⟩
 rw[←q]at j ⊢
 clear q
 go_enter Tryz.func150,Tryz.ntmps150
 go_wp2_with fail
 refine(j.out _ (by(exact kp))).mono ?_
 rintro e w1 ⟨rfl,j⟩
 go_wp2_with fail
 go_ret
 exact⟨rfl,by(exact kp)⟩

theorem wT (s:Nat)(l:Int)(b:Bool)(v:Edge)(w:World)
  (q:∀j,aa w j→Calls Tryz.prog 149 #[.pointer (some ⟨s,0,none⟩),.agg #[.int .u8 v.tag,.int .u32 v.to],.int .i64 l] j fun e w'=>e=.returned (.bool b)∧aa j w') :
  Calls Tryz.prog 92 #[.pointer (some ⟨s,0,none⟩),.int .u8 1,.agg #[.int .u8 v.tag,.int .u32 v.to],.int .i64 l] w fun e w'=>e=.returned (.bool b)∧aa w w':=by
 have t:=Lib.hid q
 clear q
 go_enter Tryz.func92,Tryz.ntmps92
 go_wp2_with fail
 refine(t.out _ (by(exact kp))).mono ?_
 rintro e w1 ⟨rfl,j⟩
 go_wp2_with fail
 go_ret
 exact⟨rfl,by(exact kp)⟩

theorem wY (s:Nat)(l:Int)(b:Bool)(v:Edge)(w:World)
  (q:∀j,aa w j→Calls Tryz.prog 150 #[.pointer (some ⟨s,0,none⟩),.agg #[.int .u8 v.tag,.int .u32 v.to],.int .i64 l] j fun e w'=>e=.returned (.bool b)∧aa j w') :
  Calls Tryz.prog 92 #[.pointer (some ⟨s,0,none⟩),.int .u8 2,.agg #[.int .u8 v.tag,.int .u32 v.to],.int .i64 l] w fun e w'=>e=.returned (.bool b)∧aa w w':=by
 have t:=Lib.hid q
 clear q
 go_enter Tryz.func92,Tryz.ntmps92
 go_wp2_with fail
 refine(t.out _ (by(exact kp))).mono ?_
 rintro e w1 ⟨rfl,j⟩
 go_wp2_with fail
 go_ret
 exact⟨rfl,by(exact kp)⟩

theorem wU (s:Nat)(l:Int)(b:Bool)(v:Edge)(w:World)
  (q:∀j,aa w j→Calls Tryz.prog 151 #[.pointer (some ⟨s,0,none⟩),.agg #[.int .u8 v.tag,.int .u32 v.to],.int .i64 l] j fun e w'=>e=.returned (.bool b)∧aa j w') :
  Calls Tryz.prog 92 #[.pointer (some ⟨s,0,none⟩),.int .u8 3,.agg #[.int .u8 v.tag,.int .u32 v.to],.int .i64 l] w fun e w'=>e=.returned (.bool b)∧aa w w':=by
 have t:=Lib.hid q
 clear q
 go_enter Tryz.func92,Tryz.ntmps92
 go_wp2_with fail
 refine(t.out _ (by(exact kp))).mono ?_
 rintro e w1 ⟨rfl,j⟩
 go_wp2_with fail
 go_ret
 exact⟨rfl,by(exact kp)⟩

theorem wW (s:Nat)(l:Int)(b:Bool)(v:Edge)(w:World)
  (q:∀j,aa w j→Calls Tryz.prog 152 #[.pointer (some ⟨s,0,none⟩),.agg #[.int .u8 v.tag,.int .u32 v.to],.int .i64 l] j fun e w'=>e=.returned (.bool b)∧aa j w') :
  Calls Tryz.prog 92 #[.pointer (some ⟨s,0,none⟩),.int .u8 4,.agg #[.int .u8 v.tag,.int .u32 v.to],.int .i64 l] w fun e w'=>e=.returned (.bool b)∧aa w w':=by
 have t:=Lib.hid q
 clear q
 go_enter Tryz.func92,Tryz.ntmps92
 go_wp2_with fail
 refine(t.out _ (by(exact kp))).mono ?_
 rintro e w1 ⟨rfl,j⟩
 go_wp2_with fail
 go_ret
 exact⟨rfl,by(exact kp)⟩

theorem wX (s:Nat)(l:Int)(b:Bool)(v:Edge)(w:World)
  (q:∀j,aa w j→Calls Tryz.prog 153 #[.pointer (some ⟨s,0,none⟩),.agg #[.int .u8 v.tag,.int .u32 v.to],.int .i64 l] j fun e w'=>e=.returned (.bool b)∧aa j w') :
  Calls Tryz.prog 92 #[.pointer (some ⟨s,0,none⟩),.int .u8 5,.agg #[.int .u8 v.tag,.int .u32 v.to],.int .i64 l] w fun e w'=>e=.returned (.bool b)∧aa w w':=by
 have t:=Lib.hid q
 clear q
 go_enter Tryz.func92,Tryz.ntmps92
 go_wp2_with fail
 refine(t.out _ (by(exact kp))).mono ?_
 rintro e w1 ⟨rfl,j⟩
 go_wp2_with fail
 go_ret
 exact⟨rfl,by(exact kp)⟩

theorem wV (A:Nat)(f l:Int)(v:Edge)(w:World)(j:f≠1)(q:f≠2)(s:f≠3)(t:f≠4)(z:f≠5) :
  Calls Tryz.prog 92 #[.pointer (some ⟨A,0,none⟩),.int .u8 f,.agg #[.int .u8 v.tag,.int .u32 v.to],.int .i64 l] w fun e w'=>e=.returned (.bool false)∧aa w w':=by
 have A:(f==1)=false:=by simp[j]
 have A:(f==2)=false:=by simp[q]
 have A:(f==3)=false:=by simp[s]
 have A:(f==4)=false:=by simp[t]
 have A:(f==5)=false:=by simp[z]
 clear j q s t z
 go_enter Tryz.func92,Tryz.ntmps92
 go_wp2
 go_ret
 exact⟨rfl,by(exact kp)⟩

theorem oW {F:Nat→Prop}{w:World}{q:Nat}{M:St}(h:ag F w q M)(f:Int)(e:Edge)(l:Int)(s:e.ok) :
  Calls Tryz.prog 92 #[.pointer (some ⟨q,0,none⟩),.int .u8 f,.agg #[.int .u8 e.tag,.int .u32 e.to],.int .i64 l] w fun r w'=>r=.returned (.bool (gP M f e l))∧aa w w':=by
 by_cases z:f=1
 ·subst z;exact wT q l _ e w (fun t j=>s' (h.U j) e l s)
 by_cases A:f=2
 ·subst A;exact wY q l _ e w (fun t j=>CR (h.U j) e l s)
 by_cases E:f=3
 ·subst E;exact wU q l _ e w (fun t j=>ue (h.U j) e l s)
 by_cases I:f=4
 ·subst I;exact wW q l _ e w (fun t j=>uQ (h.U j) e l s)
 by_cases J:f=5
 ·subst J;exact wX q l _ e w (fun t j=>Bb (h.U j) e l s)
 have K:gP M f e l=false:=by unfold gP;rw[if_neg z,if_neg A,if_neg E,if_neg I,if_neg J]
 rw[K]
 exact wV q f l e w z A E I J

end Go.Proofs.YtafkamlhimkbmaaGreat
