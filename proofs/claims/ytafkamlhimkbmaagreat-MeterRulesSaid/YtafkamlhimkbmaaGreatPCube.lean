/-
  Arguments that came in, opened; and read again behind a call below which nothing has turned.
-/
import Derived.Test.YtafkamlhimkbmaaGreatPMSA
import Derived.ProofKit
import Derived.OpenShut
import Derived.ChangeOld
import Derived.Carry
import Derived.Lib.SmallJoins
import Derived.Deep.Slices
import Derived.Deep.Fields
import Derived.OrdersHeld
namespace Go.Proofs.YtafkamlhimkbmaaGreat
set_option maxRecDepth 1000000
set_option maxHeartbeats 8000000
set_option linter.unusedSimpArgs false
set_option linter.unusedVariables false
open Go.ChangeShapes Go.WideShapes Go.ChangeAt Go.RowKit Go.Joins Go.Deep
theorem own:ownKnob Tryz.prog.godebug=none:=by kernel_rfl
theorem uW:laidOutB Tryz.prog=true:=by kernel_rfl
theorem qg {H:Type}{enc:TypeId×Value→H}{P:Program}(I:laidOutB P=true){u D:World}(E:Below u.heap.size u D):∀(ts:List TypeId) (vs:List Value) (s:List (DataW H)) (ps:List MemPlace),
  (ts.all fun t=>P.readableRec t&&decide (t<P.types.size))=true→DataW.TrodAll enc P u 0 (fun _=>true) true ts vs s ps→DataW.TrodAll enc P D 0 (fun b=>decide (b<u.heap.size)) true ts vs s ps
 |[],vs,s,ps,_,h=>by cases vs<;>cases s<;>simp_all [DataW.TrodAll]
 |t::ts,vs,s,ps,z,h=>by
  obtain⟨v,O,d,J,p,q,rfl,rfl,rfl,h0,N⟩:=trodAll_cons h;simp only[List.all_cons,cA,cm]at z;refine trodAll_cons_mk (Below.trod I z.1.1 z.1.2 h0 E ?_) (qg I E ts O J q z.2 N);obtain⟨m,hm⟩:=h0;exact DataW.trod_lt m _ _ _ hm
instance:Inhabited Rec:=⟨Rec.zero⟩
instance:Inhabited Edge:=⟨Edge.zero⟩
open Go.RowKit
def dE (M:St)(f l:Int)(lo hi:Edge):(Edge×Int) ⊕ Rec:=
 if f=1 then aC M 1 l lo hi (cK M l lo hi)else if f=2 then aC M 2 l lo hi (cO M l lo hi)else if f=3 then aC M 3 l lo hi (bk M l lo hi)
 else if f=4 then aC M 4 l lo hi (bo M l lo hi)else if f=5 then bR M l lo hi else .inl (⟨0,0⟩,4)
def kE (M:St)(f:Int)(a:(Edge×Int) ⊕ Rec):Edge:=if f=5 then iX M a else dx M a
theorem uJ {F:Nat→Prop}(R:World→World→Prop)(sb:Nat)(l a b D:Int)(lo hi:Edge)(w:World)(Y:sb<w.heap.size)(N:∀k,F k→k<w.heap.size)
  (J:∀s,ae w s→Calls Tryz.prog 121 #[.pointer (some ⟨sb,0,none⟩),.int .i64 l,.agg #[.int .u8 lo.tag,.int .u32 lo.to],.agg #[.int .u8 hi.tag,.int .u32 hi.to]] s fun e u=>e=.returned (.tuple #[.agg #[.int .u8 a,.int .u32 b],.int .u8 D])∧af F s u∧R s u) :
  Calls Tryz.prog 71 #[.pointer (some ⟨sb,0,none⟩),.int .u8 1,.int .i64 l,.agg #[.int .u8 lo.tag,.int .u32 lo.to],.agg #[.int .u8 hi.tag,.int .u32 hi.to]] w fun e u=>e=.returned (.tuple #[.agg #[.int .u8 a,.int .u32 b],.int .u8 D]) ∧
   ∃s z,ae w s∧af F s z∧R s z∧af (fun k=>w.heap.size≤k∧k<s.heap.size) z u:=by
 have Q:=aa J
 have s:∀k,w.heap.size≤k→¬F k:=fun k E h=>by have:=N k h;omega
 have I:=s (w.heap.size+2) (by omega)
 clear J N s
 go_enter Tryz.func71,Tryz.ntmps71
 go_wp2_with (go_at_call 121;refine(Q.out _ kp).mono ?_;rintro e O ⟨rfl,t,T⟩;have U:=t.size;(try simp only[ak,aA,World.a6]at U);have W:=t.cell (a:=⟨w.heap.size+2,0,none⟩) I (v:=.int .u8 0) (by simp[go_sem]);have X:=t.cell (a:=⟨w.heap.size+2,1,none⟩) I (v:=.int .u32 0) (by simp[go_sem]);have s:=fun o:Nat=>t.frozen (a:=⟨w.heap.size+2,o,none⟩) (by simp[go_sem]) I (by simp[go_sem]);have V:w.heap.size+2<O.heap.size:=(by omega))
 all_goals refine an (v:=.tuple #[.agg #[.int .u8 a,.int .u32 b],.int .u8 D]) (by simp[results,Tryz.results71,go_sem,V,W,X]) rfl ⟨rfl,_,O,kp,t,T,?_⟩
 all_goals(try simp only[ak,aA,World.a6])
 all_goals(repeat (first|with_reducible exact af.refl _ _|exact af.mono s (fun k _ E=>⟨E.1,by(try simp only[ak,aA,World.a6]);have:=E.2;omega⟩)|refine af.setCell ?_ (Or.inl (by dsimp only;omega)) _|refine af.setCell ?_ (Or.inr (by dsimp only;omega)) _|with_reducible refine af.drewN ?_ _|with_reducible refine af.drew ?_|with_reducible refine af.alloc ?_ _))
theorem uO {F:Nat→Prop}(R:World→World→Prop)(sb:Nat)(l a b D:Int)(lo hi:Edge)(w:World)(Y:sb<w.heap.size)(N:∀k,F k→k<w.heap.size)
  (J:∀s,ae w s→Calls Tryz.prog 122 #[.pointer (some ⟨sb,0,none⟩),.int .i64 l,.agg #[.int .u8 lo.tag,.int .u32 lo.to],.agg #[.int .u8 hi.tag,.int .u32 hi.to]] s fun e u=>e=.returned (.tuple #[.agg #[.int .u8 a,.int .u32 b],.int .u8 D])∧af F s u∧R s u) :
  Calls Tryz.prog 71 #[.pointer (some ⟨sb,0,none⟩),.int .u8 2,.int .i64 l,.agg #[.int .u8 lo.tag,.int .u32 lo.to],.agg #[.int .u8 hi.tag,.int .u32 hi.to]] w fun e u=>e=.returned (.tuple #[.agg #[.int .u8 a,.int .u32 b],.int .u8 D]) ∧
   ∃s z,ae w s∧af F s z∧R s z∧af (fun k=>w.heap.size≤k∧k<s.heap.size) z u:=by
 have Q:=aa J
 have s:∀k,w.heap.size≤k→¬F k:=fun k E h=>by have:=N k h;omega
 have I:=s (w.heap.size+2) (by omega)
 clear J N s
 go_enter Tryz.func71,Tryz.ntmps71
 go_wp2_with (go_at_call 122;refine(Q.out _ kp).mono ?_;rintro e O ⟨rfl,t,T⟩;have U:=t.size;(try simp only[ak,aA,World.a6]at U);have W:=t.cell (a:=⟨w.heap.size+2,0,none⟩) I (v:=.int .u8 0) (by simp[go_sem]);have X:=t.cell (a:=⟨w.heap.size+2,1,none⟩) I (v:=.int .u32 0) (by simp[go_sem]);have s:=fun o:Nat=>t.frozen (a:=⟨w.heap.size+2,o,none⟩) (by simp[go_sem]) I (by simp[go_sem]);have V:w.heap.size+2<O.heap.size:=(by omega))
 all_goals refine an (v:=.tuple #[.agg #[.int .u8 a,.int .u32 b],.int .u8 D]) (by simp[results,Tryz.results71,go_sem,V,W,X]) rfl ⟨rfl,_,O,kp,t,T,?_⟩
 all_goals(try simp only[ak,aA,World.a6])
 all_goals(repeat (first|with_reducible exact af.refl _ _|exact af.mono s (fun k _ E=>⟨E.1,by(try simp only[ak,aA,World.a6]);have:=E.2;omega⟩)|refine af.setCell ?_ (Or.inl (by dsimp only;omega)) _|refine af.setCell ?_ (Or.inr (by dsimp only;omega)) _|with_reducible refine af.drewN ?_ _|with_reducible refine af.drew ?_|with_reducible refine af.alloc ?_ _))
theorem uK {F:Nat→Prop}(R:World→World→Prop)(sb:Nat)(l a b D:Int)(lo hi:Edge)(w:World)(Y:sb<w.heap.size)(N:∀k,F k→k<w.heap.size)
  (J:∀s,ae w s→Calls Tryz.prog 123 #[.pointer (some ⟨sb,0,none⟩),.int .i64 l,.agg #[.int .u8 lo.tag,.int .u32 lo.to],.agg #[.int .u8 hi.tag,.int .u32 hi.to]] s fun e u=>e=.returned (.tuple #[.agg #[.int .u8 a,.int .u32 b],.int .u8 D])∧af F s u∧R s u) :
  Calls Tryz.prog 71 #[.pointer (some ⟨sb,0,none⟩),.int .u8 3,.int .i64 l,.agg #[.int .u8 lo.tag,.int .u32 lo.to],.agg #[.int .u8 hi.tag,.int .u32 hi.to]] w fun e u=>e=.returned (.tuple #[.agg #[.int .u8 a,.int .u32 b],.int .u8 D]) ∧
   ∃s z,ae w s∧af F s z∧R s z∧af (fun k=>w.heap.size≤k∧k<s.heap.size) z u:=by
 have Q:=aa J
 have s:∀k,w.heap.size≤k→¬F k:=fun k E h=>by have:=N k h;omega
 have I:=s (w.heap.size+2) (by omega)
 clear J N s
 go_enter Tryz.func71,Tryz.ntmps71
 go_wp2_with (go_at_call 123;refine(Q.out _ kp).mono ?_;rintro e O ⟨rfl,t,T⟩;have U:=t.size;(try simp only[ak,aA,World.a6]at U);have W:=t.cell (a:=⟨w.heap.size+2,0,none⟩) I (v:=.int .u8 0) (by simp[go_sem]);have X:=t.cell (a:=⟨w.heap.size+2,1,none⟩) I (v:=.int .u32 0) (by simp[go_sem]);have s:=fun o:Nat=>t.frozen (a:=⟨w.heap.size+2,o,none⟩) (by simp[go_sem]) I (by simp[go_sem]);have V:w.heap.size+2<O.heap.size:=(by omega))
 all_goals refine an (v:=.tuple #[.agg #[.int .u8 a,.int .u32 b],.int .u8 D]) (by simp[results,Tryz.results71,go_sem,V,W,X]) rfl ⟨rfl,_,O,kp,t,T,?_⟩
 all_goals(try simp only[ak,aA,World.a6])
 all_goals(repeat (first|with_reducible exact af.refl _ _|exact af.mono s (fun k _ E=>⟨E.1,by(try simp only[ak,aA,World.a6]);have:=E.2;omega⟩)|refine af.setCell ?_ (Or.inl (by dsimp only;omega)) _|refine af.setCell ?_ (Or.inr (by dsimp only;omega)) _|with_reducible refine af.drewN ?_ _|with_reducible refine af.drew ?_|with_reducible refine af.alloc ?_ _))
theorem uM {F:Nat→Prop}(R:World→World→Prop)(sb:Nat)(l a b D:Int)(lo hi:Edge)(w:World)(Y:sb<w.heap.size)(N:∀k,F k→k<w.heap.size)
  (J:∀s,ae w s→Calls Tryz.prog 124 #[.pointer (some ⟨sb,0,none⟩),.int .i64 l,.agg #[.int .u8 lo.tag,.int .u32 lo.to],.agg #[.int .u8 hi.tag,.int .u32 hi.to]] s fun e u=>e=.returned (.tuple #[.agg #[.int .u8 a,.int .u32 b],.int .u8 D])∧af F s u∧R s u) :
  Calls Tryz.prog 71 #[.pointer (some ⟨sb,0,none⟩),.int .u8 4,.int .i64 l,.agg #[.int .u8 lo.tag,.int .u32 lo.to],.agg #[.int .u8 hi.tag,.int .u32 hi.to]] w fun e u=>e=.returned (.tuple #[.agg #[.int .u8 a,.int .u32 b],.int .u8 D]) ∧
   ∃s z,ae w s∧af F s z∧R s z∧af (fun k=>w.heap.size≤k∧k<s.heap.size) z u:=by
 have Q:=aa J
 have s:∀k,w.heap.size≤k→¬F k:=fun k E h=>by have:=N k h;omega
 have I:=s (w.heap.size+2) (by omega)
 clear J N s
 go_enter Tryz.func71,Tryz.ntmps71
 go_wp2_with (go_at_call 124;refine(Q.out _ kp).mono ?_;rintro e O ⟨rfl,t,T⟩;have U:=t.size;(try simp only[ak,aA,World.a6]at U);have W:=t.cell (a:=⟨w.heap.size+2,0,none⟩) I (v:=.int .u8 0) (by simp[go_sem]);have X:=t.cell (a:=⟨w.heap.size+2,1,none⟩) I (v:=.int .u32 0) (by simp[go_sem]);have s:=fun o:Nat=>t.frozen (a:=⟨w.heap.size+2,o,none⟩) (by simp[go_sem]) I (by simp[go_sem]);have V:w.heap.size+2<O.heap.size:=(by omega))
 all_goals refine an (v:=.tuple #[.agg #[.int .u8 a,.int .u32 b],.int .u8 D]) (by simp[results,Tryz.results71,go_sem,V,W,X]) rfl ⟨rfl,_,O,kp,t,T,?_⟩
 all_goals(try simp only[ak,aA,World.a6])
 all_goals(repeat (first|with_reducible exact af.refl _ _|exact af.mono s (fun k _ E=>⟨E.1,by(try simp only[ak,aA,World.a6]);have:=E.2;omega⟩)|refine af.setCell ?_ (Or.inl (by dsimp only;omega)) _|refine af.setCell ?_ (Or.inr (by dsimp only;omega)) _|with_reducible refine af.drewN ?_ _|with_reducible refine af.drew ?_|with_reducible refine af.alloc ?_ _))
theorem uN {F:Nat→Prop}(R:World→World→Prop)(sb:Nat)(l a b D:Int)(lo hi:Edge)(w:World)(Y:sb<w.heap.size)(N:∀k,F k→k<w.heap.size)
  (J:∀s,ae w s→Calls Tryz.prog 125 #[.pointer (some ⟨sb,0,none⟩),.int .i64 l,.agg #[.int .u8 lo.tag,.int .u32 lo.to],.agg #[.int .u8 hi.tag,.int .u32 hi.to]] s fun e u=>e=.returned (.tuple #[.agg #[.int .u8 a,.int .u32 b],.int .u8 D])∧af F s u∧R s u) :
  Calls Tryz.prog 71 #[.pointer (some ⟨sb,0,none⟩),.int .u8 5,.int .i64 l,.agg #[.int .u8 lo.tag,.int .u32 lo.to],.agg #[.int .u8 hi.tag,.int .u32 hi.to]] w fun e u=>e=.returned (.tuple #[.agg #[.int .u8 a,.int .u32 b],.int .u8 D]) ∧
   ∃s z,ae w s∧af F s z∧R s z∧af (fun k=>w.heap.size≤k∧k<s.heap.size) z u:=by
 have Q:=aa J
 have s:∀k,w.heap.size≤k→¬F k:=fun k E h=>by have:=N k h;omega
 have I:=s (w.heap.size+2) (by omega)
 clear J N s
 go_enter Tryz.func71,Tryz.ntmps71
 go_wp2_with (go_at_call 125;refine(Q.out _ kp).mono ?_;rintro e O ⟨rfl,t,T⟩;have U:=t.size;(try simp only[ak,aA,World.a6]at U);have W:=t.cell (a:=⟨w.heap.size+2,0,none⟩) I (v:=.int .u8 0) (by simp[go_sem]);have X:=t.cell (a:=⟨w.heap.size+2,1,none⟩) I (v:=.int .u32 0) (by simp[go_sem]);have s:=fun o:Nat=>t.frozen (a:=⟨w.heap.size+2,o,none⟩) (by simp[go_sem]) I (by simp[go_sem]);have V:w.heap.size+2<O.heap.size:=(by omega))
 all_goals refine an (v:=.tuple #[.agg #[.int .u8 a,.int .u32 b],.int .u8 D]) (by simp[results,Tryz.results71,go_sem,V,W,X]) rfl ⟨rfl,_,O,kp,t,T,?_⟩
 all_goals(try simp only[ak,aA,World.a6])
 all_goals(repeat (first|with_reducible exact af.refl _ _|exact af.mono s (fun k _ E=>⟨E.1,by(try simp only[ak,aA,World.a6]);have:=E.2;omega⟩)|refine af.setCell ?_ (Or.inl (by dsimp only;omega)) _|refine af.setCell ?_ (Or.inr (by dsimp only;omega)) _|with_reducible refine af.drewN ?_ _|with_reducible refine af.drew ?_|with_reducible refine af.alloc ?_ _))
theorem uL (sb:Nat)(f l:Int)(lo hi:Edge)(w:World)(I:sb<w.heap.size)(s:f≠1)(t:f≠2)(u:f≠3)(z:f≠4)(D:f≠5) :
  Calls Tryz.prog 71 #[.pointer (some ⟨sb,0,none⟩),.int .u8 f,.int .i64 l,.agg #[.int .u8 lo.tag,.int .u32 lo.to],.agg #[.int .u8 hi.tag,.int .u32 hi.to]] w fun e E=>e=.returned (.tuple #[.agg #[.int .u8 0,.int .u32 0],.int .u8 4])∧ae w E:=by
 have g1:(f==1)=false:=by simp[s]
 have E:(f==2)=false:=by simp[t]
 have E:(f==3)=false:=by simp[u]
 have E:(f==4)=false:=by simp[z]
 have E:(f==5)=false:=by simp[D]
 clear s t u z D
 go_enter Tryz.func71,Tryz.ntmps71
 go_wp2
 all_goals refine an (v:=.tuple #[.agg #[.int .u8 0,.int .u32 0],.int .u8 4]) (by simp[results,Tryz.results71,go_sem]) rfl ⟨rfl,kp⟩
theorem lz {F:Nat→Prop}{w:World}{sb:Nat}{M:St}(h:aq F w sb M)(f l:Int)(lo hi:Edge)(T:lo.ok)(Q:hi.ok) :
  Calls Tryz.prog 71 #[.pointer (some ⟨sb,0,none⟩),.int .u8 f,.int .i64 l,.agg #[.int .u8 lo.tag,.int .u32 lo.to],.agg #[.int .u8 hi.tag,.int .u32 hi.to]] w fun r O=>
   r=.returned (.tuple #[.agg #[.int .u8 (kE M f (dE M f l lo hi)).tag,.int .u32 (kE M f (dE M f l lo hi)).to],.int .u8 (fB M (dE M f l lo hi))])∧af F w O∧aq (aH F w O) O sb (bT M (dE M f l lo hi)):=by
 by_cases U:f=1
 ·subst U;have u:dE M 1 l lo hi=aC M 1 l lo hi (cK M l lo hi):=rfl;have z:kE M 1 (dE M 1 l lo hi)=dx M (aC M 1 l lo hi (cK M l lo hi)):=by rw[u];rfl
  rw[z,u];refine(uJ (fun s t=>aq (aH F s t) t sb (bT M (aC M 1 l lo hi (cK M l lo hi)))) sb l _ _ _ lo hi w h.a8 h.lt (fun s D=>rz (h.U D) l lo hi T Q)).mono ?_;rintro e O ⟨rfl,s,t,E,I,J,N⟩;exact⟨rfl,J.after h.lt E I N⟩
 by_cases V:f=2
 ·subst V;have u:dE M 2 l lo hi=aC M 2 l lo hi (cO M l lo hi):=rfl;have z:kE M 2 (dE M 2 l lo hi)=dx M (aC M 2 l lo hi (cO M l lo hi)):=by rw[u];rfl
  rw[z,u];refine(uO (fun s t=>aq (aH F s t) t sb (bT M (aC M 2 l lo hi (cO M l lo hi)))) sb l _ _ _ lo hi w h.a8 h.lt (fun s D=>AA (h.U D) l lo hi T Q)).mono ?_;rintro e O ⟨rfl,s,t,E,I,J,N⟩;exact⟨rfl,J.after h.lt E I N⟩
 by_cases W:f=3
 ·subst W;have u:dE M 3 l lo hi=aC M 3 l lo hi (bk M l lo hi):=rfl;have z:kE M 3 (dE M 3 l lo hi)=dx M (aC M 3 l lo hi (bk M l lo hi)):=by rw[u];rfl
  rw[z,u];refine(uK (fun s t=>aq (aH F s t) t sb (bT M (aC M 3 l lo hi (bk M l lo hi)))) sb l _ _ _ lo hi w h.a8 h.lt (fun s D=>sj (h.U D) l lo hi T Q)).mono ?_;rintro e O ⟨rfl,s,t,E,I,J,N⟩;exact⟨rfl,J.after h.lt E I N⟩
 by_cases X:f=4
 ·subst X;have u:dE M 4 l lo hi=aC M 4 l lo hi (bo M l lo hi):=rfl;have z:kE M 4 (dE M 4 l lo hi)=dx M (aC M 4 l lo hi (bo M l lo hi)):=by rw[u];rfl
  rw[z,u];refine(uM (fun s t=>aq (aH F s t) t sb (bT M (aC M 4 l lo hi (bo M l lo hi)))) sb l _ _ _ lo hi w h.a8 h.lt (fun s D=>sU (h.U D) l lo hi T Q)).mono ?_;rintro e O ⟨rfl,s,t,E,I,J,N⟩;exact⟨rfl,J.after h.lt E I N⟩
 by_cases Y:f=5
 ·subst Y;have u:dE M 5 l lo hi=bR M l lo hi:=rfl;have z:kE M 5 (dE M 5 l lo hi)=iX M (bR M l lo hi):=by rw[u];rfl
  rw[z,u];refine(uN (fun s t=>aq (aH F s t) t sb (bT M (bR M l lo hi))) sb l _ _ _ lo hi w h.a8 h.lt (fun s D=>zq (h.U D) l lo hi T Q)).mono ?_;rintro e O ⟨rfl,s,t,E,I,J,N⟩;exact⟨rfl,J.after h.lt E I N⟩
 have u:dE M f l lo hi=.inl (⟨0,0⟩,4):=by unfold dE;rw[ag U,ag V,ag W,ag X,ag Y]
 have z:kE M f (dE M f l lo hi)=⟨0,0⟩:=by rw[u];unfold kE;split<;>rfl
 rw[z,u]
 exact(uL sb f l lo hi w h.a8 U V W X Y).mono fun r O s=>⟨s.1,h.bc s.2⟩
def eV (f n:Int):Edge:=if f=5 then⟨n,1⟩else⟨0,1⟩
theorem oY (f n:Int)(w:World)(D:bZ f=true)(z:0≤n)(u:n≤16):Calls Tryz.prog 163 #[.int .u8 f,.int .i64 n] w fun e s=>e=.returned (.agg #[.int .u8 (eV f n).tag,.int .u32 (eV f n).to])∧ae w s:=by
 have D:gd n=true:=by simp[gd,z,u]
 by_cases t:f=5
 ·subst t;go_enter Tryz.func163,Tryz.ntmps163;go_wp2_with (first|(go_at_call 100;refine(iJ _ _).mono ?_;rintro e s ⟨rfl,rfl⟩)|(go_at_call 201;refine(kC _ _).mono ?_;rintro e s ⟨rfl,rfl⟩)|fail)
  all_goals refine an (v:=.agg #[.int .u8 n,.int .u32 1]) (by simp[results,Tryz.results163,go_sem]) rfl ⟨rfl,kp⟩
 ·have u:(f==5)=false:=by simp[t]
  have e:eV f n=⟨0,1⟩:=ag t;rw[e];go_enter Tryz.func163,Tryz.ntmps163;go_wp2_with (first|(go_at_call 100;refine(iJ _ _).mono ?_;rintro e s ⟨rfl,rfl⟩)|(go_at_call 201;refine(kC _ _).mono ?_;rintro e s ⟨rfl,rfl⟩)|fail)
  all_goals refine an (v:=.agg #[.int .u8 0,.int .u32 1]) (by simp[results,Tryz.results163,go_sem]) rfl ⟨rfl,kp⟩
open Go
def dD (L:Array Bool)(p:Nat→Nat)(b:Nat→Bool):Nat→Array Bool
 |0=>L
 |k+1=>if b k then(dD L p b k).setIfInBounds (p k) true else dD L p b k
def cM (A:Act)(s:Nat→Option Tmp)(o:Nat→Option Value):Nat→Act
 |0=>A
 |k+1=>match o k with
  |none=>cM A s o k
  |some v=>(cM A s o k).put (s k) v
def br (o:Nat→Option Value)(k:Nat)(v:Value):Nat→Option Value:=fun i=>if i=k then some v else o i
theorem ku {L:Array Bool}{p:Nat→Nat}{b b':Nat→Bool}:∀{n:Nat},(∀k,k<n→b k=b' k)→dD L p b n=dD L p b' n
 |0,_=>rfl
 |n+1,h=>by
  unfold dD;rw[h n (Nat.lt_succ_self n),ku (fun k s=>h k (Nat.lt_succ_of_lt s))]
theorem uC {L:Array Bool}{p:Nat→Nat}{b b':Nat→Bool}{k:Nat}(D:b k=false)(z:b' k=true)(t:∀i,i≠k→b' i=b i):∀{n:Nat},k<n→(∀i j,i<n→j<n→p i=p j→i=j)→dD L p b' n=(dD L p b n).setIfInBounds (p k) true:=by
 intro n;induction n with
 |zero=>intro h;exact absurd h (Nat.not_lt_zero _)
 |succ n E=>
  intro I s;by_cases e:k=n
  ·subst e;unfold dD;rw[z,D,if_pos rfl,if_neg (by decide),ku (b':=b) (fun i hi=>t i (Nat.ne_of_lt hi))]
  ·have u:=E (by omega) (fun i j hi z=>s i j (by omega) (by omega));unfold dD;rw[t n (fun h=>e h.symm),u];split;·exact Array.setIfInBounds_comm _ _ (fun h=>e (s k n (by omega) (by omega) h))
   ·rfl
theorem ot {A:Act}{s:Nat→Option Tmp}{o o':Nat→Option Value}:∀{n:Nat},(∀k,k<n→o k=o' k)→cM A s o n=cM A s o' n
 |0,_=>rfl
 |n+1,h=>by
  unfold cM;rw[h n (Nat.lt_succ_self n),ot (fun k s=>h k (Nat.lt_succ_of_lt s))]
theorem uB {A:Act}{s:Nat→Option Tmp}{o:Nat→Option Value}{k:Nat}{v:Value}(z:o k=none):∀{n:Nat},k<n→(∀i j,i<n→j<n→∀d,s i=some d→s j=some d→i=j)→cM A s (br o k v) n=(cM A s o n).put (s k) v:=by
 intro n;induction n with
 |zero=>intro h;exact absurd h (Nat.not_lt_zero _)
 |succ n D=>
  intro s t;by_cases e:k=n
  ·subst e;unfold cM;rw[z,show br o k v k=some v by unfold br;rw[if_pos rfl]];simp only[];rw[ot (o':=o) (fun i hi=>by unfold br;rw[if_neg (Nat.ne_of_lt hi)])]
  ·have u:=D (by omega) (fun i j hi s=>t i j (by omega) (by omega));unfold cM;rw[show br o k v n=o n by unfold br;rw[if_neg (fun h=>e h.symm)],u];cases o n with
   |none=>rfl
   |some s=>
    simp only[];exact(Act.put_comm _ _ _ (fun d u s=>e (t k n (by omega) (by omega) d s u))).symm
theorem oy {L:Array Bool}{p:Nat→Nat}:∀(n:Nat),dD L p (fun _=>false) n=L
 |0=>rfl
 |n+1=>by unfold dD;rw[if_neg (by decide)];exact oy n
theorem ox {A:Act}{s:Nat→Option Tmp}:∀(n:Nat),cM A s (fun _=>none) n=A
 |0=>rfl
 |n+1=>ox n
theorem ow {A:Act}{t:Nat→Option Tmp}{o:Nat→Option Value}{x:Tmp}:∀{n:Nat},(∀k,k<n→t k≠some x)→(cM A t o n).eval (.tmp x)=A.eval (.tmp x)
 |0,_=>rfl
 |n+1,h=>by
  unfold cM;have s:=ow (A:=A) (o:=o) (fun k t=>h k (Nat.lt_succ_of_lt t));cases o n with
  |none=>exact s
  |some v=>exact(Act.eval_put (fun d u he=>by injection he with he;exact h n (Nat.lt_succ_self n) (by rw[u,he]))).trans s
theorem kt {A:Act}{s:Nat→Option Tmp}{o:Nat→Option Value}:∀{n:Nat},(cM A s o n).tmps.size=A.tmps.size
 |0=>rfl
 |n+1=>by
  unfold cM;cases o n with
  |none=>exact kt
  |some v=>
   simp only[];cases s n with
   |none=>exact kt
   |some d=>simp only[Act.put,Array.size_setIfInBounds];exact kt
theorem uA {A:Act}{s:Nat→Option Tmp}{o:Nat→Option Value}{x:Tmp}{i:Nat}{v:Value}(E:s i=some x)(D:o i=some v)(I:x<A.tmps.size):∀{n:Nat},i<n→(∀k,k<n→k≠i→s k≠some x)→(cM A s o n).eval (.tmp x)=v:=by
 intro n;induction n with
 |zero=>intro h;exact absurd h (Nat.not_lt_zero _)
 |succ n J=>
  intro N u;by_cases e:i=n
  ·subst e;unfold cM;rw[D];simp only[E];have hs:x<(cM A s o i).tmps.size:=(by rw[kt];exact I);simp[Act.eval,Act.put,hs]
  ·have t:=J (by omega) (fun k s=>u k (by omega));unfold cM;cases o n with
   |none=>exact t
   |some O=>exact(Act.eval_put (fun d z he=>by injection he with he;exact u n (Nat.lt_succ_self n) (fun q=>e q.symm) (by rw[z,he]))).trans t
def lY (s:Array Oper)(L:Array Bool)(p:Nat→Nat)(pre:Nat→List Nat)(n:Nat)(b:Nat→Bool):Bool:=
 (List.range n).all b||(let r:=Region.ready .any s (dD L p b n);!r.isEmpty&&r.all (fun i=>(List.range n).any fun k=>i==p k&&!b k&&(pre k).all b))
def jb (f:(Nat→Bool)→Bool):Nat→(Nat→Bool)→Bool
 |0,b=>f b
 |k+1,b=>jb f k (fun i=>if i=k then true else b i)&&jb f k (fun i=>if i=k then false else b i)
theorem lX {f:(Nat→Bool)→Bool}:∀{n:Nat} {b:Nat→Bool},jb f n b=true→∀c:Nat→Bool,(∀k,n≤k→c k=b k)→∃t,(∀k,t k=c k)∧f t=true
 |0,b,h,c,s=>⟨b,fun k=>(s k (Nat.zero_le k)).symm,h⟩
 |n+1,b,h,c,s=>by
  unfold jb at h;rw[Bool.and_eq_true]at h;cases t:c n with
  |true=>
   refine lX h.1 c (fun k u=>?_);by_cases e:k=n;·rw[if_pos e,e,t]
   ·rw[if_neg e];exact s k (by omega)
  |false=>
   refine lX h.2 c (fun k u=>?_);by_cases e:k=n;·rw[if_pos e,e,t]
   ·rw[if_neg e];exact s k (by omega)
theorem Ap {P:Program}{Q:Array Oper}{U:Exit→Act→World→Prop}{S:World→Prop}(n g:Nat)(p:Nat→Nat)(z:Nat→Option Tmp)(pre:Nat→List Nat){A:Act}{L:Array Bool}
  (av:∀i j,i<n→j<n→p i=p j→i=j) (ay:∀i j,i<n→j<n→∀d,z i=some d→z j=some d→i=j) (aw:jb (lY Q L p pre n) n (fun _=>false)=true)
  (D:(Nat→Option Value)→World→Prop)
  (hs:∀(o:Nat→Option Value) (w:World) (k:Nat),k<n→D o w→o k=none→(∀j,j∈pre k→(o j).isSome=true) →
    wpOp P Q U (p k) (fun X T=>S T∧∃v,X=(cM A z o n).put (z k) v∧D (br o k v) T) (cM A z o n) w)
  (he:∀(o:Nat→Option Value) (w:World),D o w→(∀k,k<n→(o k).isSome=true)→wpAnyH P .any Q U S g (dD L p (fun _=>true) n) (cM A z o n) w) :
  ∀(m:Nat) (o:Nat→Option Value) (w:World),((List.range n).filter (fun k=>(o k).isNone)).length=m→D o w→wpAnyH P .any Q U S (m+g) (dD L p (fun k=>(o k).isSome) n) (cM A z o n) w:=by
 intro m
 induction m with
 |zero=>
  intro o w hm W
  have I:∀k,k<n→(o k).isSome=true:=fun k s=>by
   have:=List.filter_eq_nil_iff.1 (List.eq_nil_of_length_eq_zero hm) k (List.mem_range.2 s);cases h:o k with
   |none=>rw[h]at this;exact absurd rfl this
   |some v=>rfl
  rw[Nat.zero_add,ku (b':=fun _=>true) (fun k s=>I k s)];exact he o w W I
 |succ m a0=>
  intro o w hm W;obtain⟨z,J,u⟩:=lX aw (fun k=>if k<n then(o k).isSome else false) (fun k s=>by rw[if_neg (by omega)]);have ad:dD L p z n=dD L p (fun k=>(o k).isSome) n:=ku (fun k s=>by rw[J,if_pos s]);unfold lY at u;rw[Bool.or_eq_true]at u;rcases u with u|u
  ·exfalso
   have h0:(List.range n).filter (fun k=>(o k).isNone)=[]:=List.filter_eq_nil_iff.2 (fun k s=>by
    have t:=List.all_eq_true.1 u k s;rw[J,if_pos (List.mem_range.1 s)]at t;cases h:o k with
    |none=>rw[h]at t;cases t
    |some v=>simp)
   rw[h0]at hm;cases hm
  ·rw[Bool.and_eq_true,ad]at u;obtain⟨Z,I⟩:=u;rw[Nat.succ_add];refine⟨fun h0=>(by rw[h0]at Z;cases Z),fun i hi=>?_⟩;obtain⟨k,s,t⟩:=List.any_eq_true.1 (List.all_eq_true.1 I i hi);rw[Bool.and_eq_true,Bool.and_eq_true]at t;obtain⟨⟨t,V⟩,ab⟩:=t;have N:=List.mem_range.1 s;have al:i=p k:=by simpa using t
   have O:o k=none:=by
    rw[J,if_pos N]at V;cases h:o k with
    |none=>rfl
    |some v=>rw[h]at V;cases V
   subst al;refine wpOp_mono (fun X T ah=>?_) (hs o w k N W O (fun j am=>?_))
   ·obtain⟨hS,v,rfl,t⟩:=ah;refine⟨hS,?_⟩;have q:=a0 (br o k v) T ?_ t
    ·rw[uB O N ay,uC (b:=fun k=>(o k).isSome) (k:=k) (by simp[O]) (by simp[br]) (fun i hi=>by simp[br,hi]) N av]at q;exact q
    ·have t:((List.range n).filter (fun i=>(o i).isNone)).length=((List.range n).filter (fun i=>(br o k v i).isNone)).length+1:=by
      have ax:(List.range n).filter (fun i=>(br o k v i).isNone)=((List.range n).filter (fun i=>(o i).isNone)).filter (fun i=>i != k):=by
       rw[List.filter_filter];congr 1
       funext i
       by_cases e:i=k;·subst e;simp[br]
       ·simp[br,e]
      have Y:k∈(List.range n).filter (fun i=>(o i).isNone):=List.mem_filter.2 ⟨s,by simp[O]⟩;have s:((List.range n).filter (fun i=>(o i).isNone)).Nodup:=(List.filter_sublist).nodup List.nodup_range;rw[ax,←s.erase_eq_filter k,List.length_erase_of_mem Y];have:=List.length_pos_of_mem Y;omega
     omega
   ·have E:=List.all_eq_true.1 ab j am;rw[J]at E;split at E;·exact E
    ·cases E
theorem Aq {P:Program}{u:Array Oper}{z:Exit→Act→World→Prop}{S:World→Prop}(n g:Nat)(p:Nat→Nat)(s:Nat→Option Tmp)(pre:Nat→List Nat){A:Act}{L:Array Bool}{w:World}
  (O:∀i j,i<n→j<n→p i=p j→i=j) (D:∀i j,i<n→j<n→∀d,s i=some d→s j=some d→i=j) (T:∀i,i<n→∀x,s i=some x→x<A.tmps.size) (Q:jb (lY u L p pre n) n (fun _=>false)=true)
  (t:(Nat→Option Value)→World→Prop) (h0:t (fun _=>none) w)
  (hs:∀(o:Nat→Option Value) (w:World) (k:Nat) (b:Act),k<n→t o w→o k=none→(∀j,j∈pre k→(o j).isSome=true)→(∀x,(∀k,k<n→s k≠some x)→b.eval (.tmp x)=A.eval (.tmp x))→(∀i x v,i<n→s i=some x→o i=some v→b.eval (.tmp x)=v) →
    wpOp P u z (p k) (fun I E=>S E∧∃v,I=b.put (s k) v∧t (br o k v) E) b w)
  (he:∀(o:Nat→Option Value) (w:World) (b:Act),t o w→(∀k,k<n→(o k).isSome=true)→b=cM A s o n→wpAnyH P .any u z S g (dD L p (fun _=>true) n) b w) :
  wpAnyH P .any u z S (n+g) L A w:=by
 have N:((List.range n).filter (fun k=>((fun _=>none:Nat→Option Value) k).isNone)).length=n:=by
  have J:(List.range n).filter (fun k=>((fun _=>none:Nat→Option Value) k).isNone)=List.range n:=List.filter_eq_self.2 (fun k _=>rfl);rw[J,List.length_range]
 have q:=Ap n g p s pre (L:=L) O D Q t (fun o w k t s u z=>hs o w k _ t s u z (fun x t=>ow t) (fun i x v hi t u=>uA t u (T i hi x t) hi (fun j u z E=>z (D j i u hi x E t)))) (fun o w s t=>he o w _ s t rfl) n (fun _=>none) w N h0
 have s:dD L p (fun k=>((fun _=>none:Nat→Option Value) k).isSome) n=L:=oy n
 rw[ox,s]at q
 exact q
end Go.Proofs.YtafkamlhimkbmaaGreat
