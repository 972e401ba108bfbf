/-
  Arguments that came in, opened; and read again behind a call below which nothing has turned.
-/
import Derived.Test.YtafkamlhimkbmaaGreatPViewT
import Derived.ProofKit
import Derived.OpenShut
import Derived.ChangeOld
import Derived.Carry
import Derived.Lib.SmallJoins
import Derived.Deep.Slices
import Derived.Deep.Fields
namespace Go.Proofs.YtafkamlhimkbmaaGreat
set_option maxRecDepth 1000000
set_option maxHeartbeats 8000000
set_option linter.unusedSimpArgs false
set_option linter.unusedVariables false
open Go.ChangeShapes Go.WideShapes Go.ChangeAt Go.RowKit Go.Joins Go.Deep

theorem own:ownKnob Tryz.prog.godebug=none:=by kernel_rfl

theorem pP:laidOutB Tryz.prog=true:=by kernel_rfl

theorem wf_u8 {n:Int}(h:(Lit.int .u8 n).wf=true):0≤n∧n≤255:=by
 unfold Lit.wf at h;simp only[Bool.and_eq_true,decide_eq_true_eq]at h;exact h

theorem ot {H:Type}{enc:TypeId×Value→H}{P:Program}(I:laidOutB P=true){s W':World}(E:Below s.heap.size s W'):∀(ts:List TypeId) (q:List Value) (j:List (DataW H)) (ps:List MemPlace),
  (ts.all fun t=>P.readableRec t&&decide (t<P.types.size))=true→DataW.TrodAll enc P s 0 (fun _=>true) true ts q j ps→DataW.TrodAll enc P W' 0 (fun b=>decide (b<s.heap.size)) true ts q j ps
 |[],q,j,ps,_,h=>by cases q<;>cases j<;>simp_all [DataW.TrodAll]
 |t::ts,q,j,ps,z,h=>by
  obtain⟨v,N,d,J,p,L,rfl,rfl,rfl,A,K⟩:=trodAll_cons h;simp only[List.all_cons,Bool.and_eq_true,decide_eq_true_eq]at z;refine trodAll_cons_mk (Below.trod I z.1.1 z.1.2 A E ?_) (ot I E ts N J L z.2 K);obtain⟨m,j⟩:=A;exact DataW.trod_lt m _ _ _ j

def sr {j:Type}(k:Nat)(Q:j→List Value→Prop)(w:World)(a:Option Addr)(len:Nat)(rs:List j):Prop:=
 rs.length=len∧∀i r,rs[i]?=some r→∃b off cs,a=some ⟨b,off,none⟩∧Q r cs∧∀j,j<k→w.cell? ⟨b,off+i*k+j,none⟩=cs[j]?

theorem qw {H:Type}{enc:TypeId×Value→H}{P:Program}{t:World}{K:Nat}{T:Nat→Bool}{held:Bool}{U e:TypeId}{k:Nat}{E:Type}[Inhabited E](Q:E→List Value→Prop)
  (am:P.underlying U=some (.slice e)) (S:P.cellsOf e=k) (J:0<k)
  (L:∀n cs x,DataW.trod enc P t K T held n e cs=some x→cs.length=k∧∃r,Q r cs)
  {a:Option Addr} {len cap:Nat} {d:DataW H} {p:List MemPlace} (h:DataW.Trod enc P t K T held U (.slice a len cap) d p):∃rs:List E,sr k Q t a len rs:=by
 obtain⟨fuel,X⟩:=h
 rcases open_slice am X with⟨s,_⟩|⟨x,l,c,m,n,D,K,s,_,T,_,Z,_,hi⟩
 ·simp[Value.cells]at s;obtain⟨rfl,rfl,rfl⟩:=s;exact⟨[],rfl,fun i r q=>by simp at q⟩
 ·simp[Value.cells]at s;obtain⟨rfl,rfl,rfl⟩:=s;have s:len≤m:=by rw[Z];split<;>omega
  have W:∀i,i<len→∃r:E,∃b off cs,x=⟨b,off,none⟩∧Q r cs∧∀j,j<k→t.cell? ⟨b,off+i*k+j,none⟩=cs[j]?:=by
   intro i I;obtain⟨cs,A,av⟩:=hi i (by omega);obtain⟨s,r,q⟩:=L _ _ _ av;rw[S]at A;obtain⟨_,_,N⟩:=World.cells?_some A;obtain⟨b,off,spot⟩:=x;have s:=N 0 J;rw[List.getElem?_eq_getElem (by omega)]at s
   have ad:spot=none:=by
    by_cases t:i*k=0
    ·have z:=s;rw[t]at z;simpa[Addr.add]using World.cell?_spot z
    ·have z:=hi 0 (by omega);obtain⟨s,t,E⟩:=z;rw[S]at t;have s:=(World.cells?_some t).2.2 0 J;rw[List.getElem?_eq_getElem (by rw[(L _ _ _ E).1];exact J)]at s;simpa[Addr.add]using World.cell?_spot s
   subst ad;refine⟨r,b,off,cs,rfl,q,fun j s=>?_⟩;have:=N j s;rw[add_add,Addr.add]at this;split at this
   ·rename_i s;rw[show off+i*k+j=off by omega];exact this
   ·rw[show off+i*k+j=off+(i*k+j) by omega];exact this
  obtain⟨f,Y⟩:=choose_lt W;refine⟨(List.range len).map f,by simp,fun i r q=>?_⟩;rw[List.getElem?_map,Option.map_eq_some_iff]at q;obtain⟨aw,O,rfl⟩:=q;rw[List.getElem?_eq_some_iff]at O;obtain⟨I,rfl⟩:=O;simp only[List.length_range]at I;simp only[List.getElem_range];obtain⟨b,off,cs,rfl,ab,A⟩:=Y i I;exact⟨b,off,cs,rfl,ab,A⟩

instance:Inhabited Rec:=⟨Rec.zero⟩

instance:Inhabited Edge:=⟨Edge.zero⟩

open Go.RowKit

def dC (M:St)(f l:Int)(lo hi:Edge):(Edge×Int) ⊕ Rec:=
 if f=1 then al M 1 l lo hi (bY M l lo hi)else if f=2 then al M 2 l lo hi (cr M l lo hi)else if f=3 then al M 3 l lo hi (aW M l lo hi)
 else if f=4 then al M 4 l lo hi (aZ M l lo hi)else if f=5 then bo M l lo hi else .inl (⟨0,0⟩,4)

def kE (M:St)(f:Int)(a:(Edge×Int) ⊕ Rec):Edge:=if f=5 then iJ M a else dA M a

theorem wN {F:Nat→Prop}(R:World→World→Prop)(E:Nat)(l a b t:Int)(lo hi:Edge)(w:World)(W:E<w.heap.size)(J:∀k,F k→k<w.heap.size)
  (I:∀j,aa w j→Calls Tryz.prog 121 #[.pointer (some ⟨E,0,none⟩),.int .i64 l,.agg #[.int .u8 lo.tag,.int .u32 lo.to],.agg #[.int .u8 hi.tag,.int .u32 hi.to]] j fun e w'=>e=.returned (.tuple #[.agg #[.int .u8 a,.int .u32 b],.int .u8 t])∧ae F j w'∧R j w') :
  Calls Tryz.prog 71 #[.pointer (some ⟨E,0,none⟩),.int .u8 1,.int .i64 l,.agg #[.int .u8 lo.tag,.int .u32 lo.to],.agg #[.int .u8 hi.tag,.int .u32 hi.to]] w fun e w'=>e=.returned (.tuple #[.agg #[.int .u8 a,.int .u32 b],.int .u8 t]) ∧
   ∃j s,aa w j∧ae F j s∧R j s∧ae (fun k=>w.heap.size≤k∧k<j.heap.size) s w':=by
 have L:=Lib.hid I
 have j:∀k,w.heap.size≤k→¬F k:=fun k z h=>by have:=J k h;omega
 have A:=j (w.heap.size+2) (by omega)
 clear I J j
 go_enter Tryz.func71,Tryz.ntmps71
 go_wp2_with (go_at_call 121;refine(L.out _ (by(exact kp))).mono ?_;rintro e K ⟨rfl,q,N⟩;have O:=q.size;(try simp only[World.size_alloc,World.size_setCell,World.a3]at O);have T:=q.cell (a:=⟨w.heap.size+2,0,none⟩) A (v:=.int .u8 0) (by simp[go_sem]);have U:=q.cell (a:=⟨w.heap.size+2,1,none⟩) A (v:=.int .u32 0) (by simp[go_sem]);have j:=fun o:Nat=>q.frozen (a:=⟨w.heap.size+2,o,none⟩) (by simp[go_sem]) A (by simp[go_sem]);have S:w.heap.size+2<K.heap.size:=(by omega))
 all_goals refine bodyPost_ret (v:=.tuple #[.agg #[.int .u8 a,.int .u32 b],.int .u8 t]) (by simp[results,Tryz.results71,go_sem,S,T,U]) rfl ⟨rfl,_,K,by(exact kp),q,N,?_⟩
 all_goals(try simp only[World.size_alloc,World.size_setCell,World.a3])
 all_goals(repeat (first|with_reducible exact ae.refl _ _|exact ae.mono j (fun k _ z=>⟨z.1,by(try simp only[World.size_alloc,World.size_setCell,World.a3]);have:=z.2;omega⟩)|refine ae.setCell ?_ (Or.inl (by dsimp only;omega)) _|refine ae.setCell ?_ (Or.inr (by dsimp only;omega)) _|with_reducible refine ae.drewN ?_ _|with_reducible refine ae.drew ?_|with_reducible refine ae.alloc ?_ _))

theorem wS {F:Nat→Prop}(R:World→World→Prop)(E:Nat)(l a b t:Int)(lo hi:Edge)(w:World)(W:E<w.heap.size)(J:∀k,F k→k<w.heap.size)
  (I:∀j,aa w j→Calls Tryz.prog 122 #[.pointer (some ⟨E,0,none⟩),.int .i64 l,.agg #[.int .u8 lo.tag,.int .u32 lo.to],.agg #[.int .u8 hi.tag,.int .u32 hi.to]] j fun e w'=>e=.returned (.tuple #[.agg #[.int .u8 a,.int .u32 b],.int .u8 t])∧ae F j w'∧R j w') :
  Calls Tryz.prog 71 #[.pointer (some ⟨E,0,none⟩),.int .u8 2,.int .i64 l,.agg #[.int .u8 lo.tag,.int .u32 lo.to],.agg #[.int .u8 hi.tag,.int .u32 hi.to]] w fun e w'=>e=.returned (.tuple #[.agg #[.int .u8 a,.int .u32 b],.int .u8 t]) ∧
   ∃j s,aa w j∧ae F j s∧R j s∧ae (fun k=>w.heap.size≤k∧k<j.heap.size) s w':=by
 have L:=Lib.hid I
 have j:∀k,w.heap.size≤k→¬F k:=fun k z h=>by have:=J k h;omega
 have A:=j (w.heap.size+2) (by omega)
 clear I J j
 go_enter Tryz.func71,Tryz.ntmps71
 go_wp2_with (go_at_call 122;refine(L.out _ (by(exact kp))).mono ?_;rintro e K ⟨rfl,q,N⟩;have O:=q.size;(try simp only[World.size_alloc,World.size_setCell,World.a3]at O);have T:=q.cell (a:=⟨w.heap.size+2,0,none⟩) A (v:=.int .u8 0) (by simp[go_sem]);have U:=q.cell (a:=⟨w.heap.size+2,1,none⟩) A (v:=.int .u32 0) (by simp[go_sem]);have j:=fun o:Nat=>q.frozen (a:=⟨w.heap.size+2,o,none⟩) (by simp[go_sem]) A (by simp[go_sem]);have S:w.heap.size+2<K.heap.size:=(by omega))
 all_goals refine bodyPost_ret (v:=.tuple #[.agg #[.int .u8 a,.int .u32 b],.int .u8 t]) (by simp[results,Tryz.results71,go_sem,S,T,U]) rfl ⟨rfl,_,K,by(exact kp),q,N,?_⟩
 all_goals(try simp only[World.size_alloc,World.size_setCell,World.a3])
 all_goals(repeat (first|with_reducible exact ae.refl _ _|exact ae.mono j (fun k _ z=>⟨z.1,by(try simp only[World.size_alloc,World.size_setCell,World.a3]);have:=z.2;omega⟩)|refine ae.setCell ?_ (Or.inl (by dsimp only;omega)) _|refine ae.setCell ?_ (Or.inr (by dsimp only;omega)) _|with_reducible refine ae.drewN ?_ _|with_reducible refine ae.drew ?_|with_reducible refine ae.alloc ?_ _))

theorem wO {F:Nat→Prop}(R:World→World→Prop)(E:Nat)(l a b t:Int)(lo hi:Edge)(w:World)(W:E<w.heap.size)(J:∀k,F k→k<w.heap.size)
  (I:∀j,aa w j→Calls Tryz.prog 123 #[.pointer (some ⟨E,0,none⟩),.int .i64 l,.agg #[.int .u8 lo.tag,.int .u32 lo.to],.agg #[.int .u8 hi.tag,.int .u32 hi.to]] j fun e w'=>e=.returned (.tuple #[.agg #[.int .u8 a,.int .u32 b],.int .u8 t])∧ae F j w'∧R j w') :
  Calls Tryz.prog 71 #[.pointer (some ⟨E,0,none⟩),.int .u8 3,.int .i64 l,.agg #[.int .u8 lo.tag,.int .u32 lo.to],.agg #[.int .u8 hi.tag,.int .u32 hi.to]] w fun e w'=>e=.returned (.tuple #[.agg #[.int .u8 a,.int .u32 b],.int .u8 t]) ∧
   ∃j s,aa w j∧ae F j s∧R j s∧ae (fun k=>w.heap.size≤k∧k<j.heap.size) s w':=by
 have L:=Lib.hid I
 have j:∀k,w.heap.size≤k→¬F k:=fun k z h=>by have:=J k h;omega
 have A:=j (w.heap.size+2) (by omega)
 clear I J j
 go_enter Tryz.func71,Tryz.ntmps71
 go_wp2_with (go_at_call 123;refine(L.out _ (by(exact kp))).mono ?_;rintro e K ⟨rfl,q,N⟩;have O:=q.size;(try simp only[World.size_alloc,World.size_setCell,World.a3]at O);have T:=q.cell (a:=⟨w.heap.size+2,0,none⟩) A (v:=.int .u8 0) (by simp[go_sem]);have U:=q.cell (a:=⟨w.heap.size+2,1,none⟩) A (v:=.int .u32 0) (by simp[go_sem]);have j:=fun o:Nat=>q.frozen (a:=⟨w.heap.size+2,o,none⟩) (by simp[go_sem]) A (by simp[go_sem]);have S:w.heap.size+2<K.heap.size:=(by omega))
 all_goals refine bodyPost_ret (v:=.tuple #[.agg #[.int .u8 a,.int .u32 b],.int .u8 t]) (by simp[results,Tryz.results71,go_sem,S,T,U]) rfl ⟨rfl,_,K,by(exact kp),q,N,?_⟩
 all_goals(try simp only[World.size_alloc,World.size_setCell,World.a3])
 all_goals(repeat (first|with_reducible exact ae.refl _ _|exact ae.mono j (fun k _ z=>⟨z.1,by(try simp only[World.size_alloc,World.size_setCell,World.a3]);have:=z.2;omega⟩)|refine ae.setCell ?_ (Or.inl (by dsimp only;omega)) _|refine ae.setCell ?_ (Or.inr (by dsimp only;omega)) _|with_reducible refine ae.drewN ?_ _|with_reducible refine ae.drew ?_|with_reducible refine ae.alloc ?_ _))

theorem wQ {F:Nat→Prop}(R:World→World→Prop)(E:Nat)(l a b t:Int)(lo hi:Edge)(w:World)(W:E<w.heap.size)(J:∀k,F k→k<w.heap.size)
  (I:∀j,aa w j→Calls Tryz.prog 124 #[.pointer (some ⟨E,0,none⟩),.int .i64 l,.agg #[.int .u8 lo.tag,.int .u32 lo.to],.agg #[.int .u8 hi.tag,.int .u32 hi.to]] j fun e w'=>e=.returned (.tuple #[.agg #[.int .u8 a,.int .u32 b],.int .u8 t])∧ae F j w'∧R j w') :
  Calls Tryz.prog 71 #[.pointer (some ⟨E,0,none⟩),.int .u8 4,.int .i64 l,.agg #[.int .u8 lo.tag,.int .u32 lo.to],.agg #[.int .u8 hi.tag,.int .u32 hi.to]] w fun e w'=>e=.returned (.tuple #[.agg #[.int .u8 a,.int .u32 b],.int .u8 t]) ∧
   ∃j s,aa w j∧ae F j s∧R j s∧ae (fun k=>w.heap.size≤k∧k<j.heap.size) s w':=by
 have L:=Lib.hid I
 have j:∀k,w.heap.size≤k→¬F k:=fun k z h=>by have:=J k h;omega
 have A:=j (w.heap.size+2) (by omega)
 clear I J j
 go_enter Tryz.func71,Tryz.ntmps71
 go_wp2_with (go_at_call 124;refine(L.out _ (by(exact kp))).mono ?_;rintro e K ⟨rfl,q,N⟩;have O:=q.size;(try simp only[World.size_alloc,World.size_setCell,World.a3]at O);have T:=q.cell (a:=⟨w.heap.size+2,0,none⟩) A (v:=.int .u8 0) (by simp[go_sem]);have U:=q.cell (a:=⟨w.heap.size+2,1,none⟩) A (v:=.int .u32 0) (by simp[go_sem]);have j:=fun o:Nat=>q.frozen (a:=⟨w.heap.size+2,o,none⟩) (by simp[go_sem]) A (by simp[go_sem]);have S:w.heap.size+2<K.heap.size:=(by omega))
 all_goals refine bodyPost_ret (v:=.tuple #[.agg #[.int .u8 a,.int .u32 b],.int .u8 t]) (by simp[results,Tryz.results71,go_sem,S,T,U]) rfl ⟨rfl,_,K,by(exact kp),q,N,?_⟩
 all_goals(try simp only[World.size_alloc,World.size_setCell,World.a3])
 all_goals(repeat (first|with_reducible exact ae.refl _ _|exact ae.mono j (fun k _ z=>⟨z.1,by(try simp only[World.size_alloc,World.size_setCell,World.a3]);have:=z.2;omega⟩)|refine ae.setCell ?_ (Or.inl (by dsimp only;omega)) _|refine ae.setCell ?_ (Or.inr (by dsimp only;omega)) _|with_reducible refine ae.drewN ?_ _|with_reducible refine ae.drew ?_|with_reducible refine ae.alloc ?_ _))

theorem wR {F:Nat→Prop}(R:World→World→Prop)(E:Nat)(l a b t:Int)(lo hi:Edge)(w:World)(W:E<w.heap.size)(J:∀k,F k→k<w.heap.size)
  (I:∀j,aa w j→Calls Tryz.prog 125 #[.pointer (some ⟨E,0,none⟩),.int .i64 l,.agg #[.int .u8 lo.tag,.int .u32 lo.to],.agg #[.int .u8 hi.tag,.int .u32 hi.to]] j fun e w'=>e=.returned (.tuple #[.agg #[.int .u8 a,.int .u32 b],.int .u8 t])∧ae F j w'∧R j w') :
  Calls Tryz.prog 71 #[.pointer (some ⟨E,0,none⟩),.int .u8 5,.int .i64 l,.agg #[.int .u8 lo.tag,.int .u32 lo.to],.agg #[.int .u8 hi.tag,.int .u32 hi.to]] w fun e w'=>e=.returned (.tuple #[.agg #[.int .u8 a,.int .u32 b],.int .u8 t]) ∧
   ∃j s,aa w j∧ae F j s∧R j s∧ae (fun k=>w.heap.size≤k∧k<j.heap.size) s w':=by
 have L:=Lib.hid I
 have j:∀k,w.heap.size≤k→¬F k:=fun k z h=>by have:=J k h;omega
 have A:=j (w.heap.size+2) (by omega)
 clear I J j
 go_enter Tryz.func71,Tryz.ntmps71
 go_wp2_with (go_at_call 125;refine(L.out _ (by(exact kp))).mono ?_;rintro e K ⟨rfl,q,N⟩;have O:=q.size;(try simp only[World.size_alloc,World.size_setCell,World.a3]at O);have T:=q.cell (a:=⟨w.heap.size+2,0,none⟩) A (v:=.int .u8 0) (by simp[go_sem]);have U:=q.cell (a:=⟨w.heap.size+2,1,none⟩) A (v:=.int .u32 0) (by simp[go_sem]);have j:=fun o:Nat=>q.frozen (a:=⟨w.heap.size+2,o,none⟩) (by simp[go_sem]) A (by simp[go_sem]);have S:w.heap.size+2<K.heap.size:=(by omega))
 all_goals refine bodyPost_ret (v:=.tuple #[.agg #[.int .u8 a,.int .u32 b],.int .u8 t]) (by simp[results,Tryz.results71,go_sem,S,T,U]) rfl ⟨rfl,_,K,by(exact kp),q,N,?_⟩
 all_goals(try simp only[World.size_alloc,World.size_setCell,World.a3])
 all_goals(repeat (first|with_reducible exact ae.refl _ _|exact ae.mono j (fun k _ z=>⟨z.1,by(try simp only[World.size_alloc,World.size_setCell,World.a3]);have:=z.2;omega⟩)|refine ae.setCell ?_ (Or.inl (by dsimp only;omega)) _|refine ae.setCell ?_ (Or.inr (by dsimp only;omega)) _|with_reducible refine ae.drewN ?_ _|with_reducible refine ae.drew ?_|with_reducible refine ae.alloc ?_ _))

theorem wP (A:Nat)(f l:Int)(lo hi:Edge)(w:World)(E:A<w.heap.size)(j:f≠1)(q:f≠2)(s:f≠3)(t:f≠4)(z:f≠5) :
  Calls Tryz.prog 71 #[.pointer (some ⟨A,0,none⟩),.int .u8 f,.int .i64 l,.agg #[.int .u8 lo.tag,.int .u32 lo.to],.agg #[.int .u8 hi.tag,.int .u32 hi.to]] w fun e w'=>e=.returned (.tuple #[.agg #[.int .u8 0,.int .u32 0],.int .u8 4])∧aa w w':=by
 have A:(f==1)=false:=by simp[j]
 have A:(f==2)=false:=by simp[q]
 have A:(f==3)=false:=by simp[s]
 have A:(f==4)=false:=by simp[t]
 have A:(f==5)=false:=by simp[z]
 clear j q s t z
 go_enter Tryz.func71,Tryz.ntmps71
 go_wp2
 all_goals refine bodyPost_ret (v:=.tuple #[.agg #[.int .u8 0,.int .u32 0],.int .u8 4]) (by simp[results,Tryz.results71,go_sem]) rfl ⟨rfl,by(exact kp)⟩

theorem kg {F:Nat→Prop}{w:World}{t:Nat}{M:St}(h:ag F w t M)(f l:Int)(lo hi:Edge)(N:lo.ok)(L:hi.ok) :
  Calls Tryz.prog 71 #[.pointer (some ⟨t,0,none⟩),.int .u8 f,.int .i64 l,.agg #[.int .u8 lo.tag,.int .u32 lo.to],.agg #[.int .u8 hi.tag,.int .u32 hi.to]] w fun r w'=>
   r=.returned (.tuple #[.agg #[.int .u8 (kE M f (dC M f l lo hi)).tag,.int .u32 (kE M f (dC M f l lo hi)).to],.int .u8 (bX M (dC M f l lo hi))])∧ae F w w'∧ag (au F w w') w' t (aR M (dC M f l lo hi)):=by
 by_cases O:f=1
 ·subst O;have s:dC M 1 l lo hi=al M 1 l lo hi (bY M l lo hi):=rfl;have z:kE M 1 (dC M 1 l lo hi)=dA M (al M 1 l lo hi (bY M l lo hi)):=by rw[s];rfl
  rw[z,s];refine(wN (fun j q=>ag (au F j q) q t (aR M (al M 1 l lo hi (bY M l lo hi)))) t l _ _ _ lo hi w h.pos h.lt (fun j A=>sZ (h.U A) l lo hi N L)).mono ?_;rintro e w' ⟨rfl,j,q,E,I,J,K⟩;exact⟨rfl,J.after h.lt E I K⟩
 by_cases S:f=2
 ·subst S;have s:dC M 2 l lo hi=al M 2 l lo hi (cr M l lo hi):=rfl;have z:kE M 2 (dC M 2 l lo hi)=dA M (al M 2 l lo hi (cr M l lo hi)):=by rw[s];rfl
  rw[z,s];refine(wS (fun j q=>ag (au F j q) q t (aR M (al M 2 l lo hi (cr M l lo hi)))) t l _ _ _ lo hi w h.pos h.lt (fun j A=>CQ (h.U A) l lo hi N L)).mono ?_;rintro e w' ⟨rfl,j,q,E,I,J,K⟩;exact⟨rfl,J.after h.lt E I K⟩
 by_cases T:f=3
 ·subst T;have s:dC M 3 l lo hi=al M 3 l lo hi (aW M l lo hi):=rfl;have z:kE M 3 (dC M 3 l lo hi)=dA M (al M 3 l lo hi (aW M l lo hi)):=by rw[s];rfl
  rw[z,s];refine(wO (fun j q=>ag (au F j q) q t (aR M (al M 3 l lo hi (aW M l lo hi)))) t l _ _ _ lo hi w h.pos h.lt (fun j A=>ud (h.U A) l lo hi N L)).mono ?_;rintro e w' ⟨rfl,j,q,E,I,J,K⟩;exact⟨rfl,J.after h.lt E I K⟩
 by_cases U:f=4
 ·subst U;have s:dC M 4 l lo hi=al M 4 l lo hi (aZ M l lo hi):=rfl;have z:kE M 4 (dC M 4 l lo hi)=dA M (al M 4 l lo hi (aZ M l lo hi)):=by rw[s];rfl
  rw[z,s];refine(wQ (fun j q=>ag (au F j q) q t (aR M (al M 4 l lo hi (aZ M l lo hi)))) t l _ _ _ lo hi w h.pos h.lt (fun j A=>uP (h.U A) l lo hi N L)).mono ?_;rintro e w' ⟨rfl,j,q,E,I,J,K⟩;exact⟨rfl,J.after h.lt E I K⟩
 by_cases W:f=5
 ·subst W;have s:dC M 5 l lo hi=bo M l lo hi:=rfl;have z:kE M 5 (dC M 5 l lo hi)=iJ M (bo M l lo hi):=by rw[s];rfl
  rw[z,s];refine(wR (fun j q=>ag (au F j q) q t (aR M (bo M l lo hi))) t l _ _ _ lo hi w h.pos h.lt (fun j A=>Ba (h.U A) l lo hi N L)).mono ?_;rintro e w' ⟨rfl,j,q,E,I,J,K⟩;exact⟨rfl,J.after h.lt E I K⟩
 have s:dC M f l lo hi=.inl (⟨0,0⟩,4):=by unfold dC;rw[if_neg O,if_neg S,if_neg T,if_neg U,if_neg W]
 have z:kE M f (dC M f l lo hi)=⟨0,0⟩:=by rw[s];unfold kE;split<;>rfl
 rw[z,s]
 exact(wP t f l lo hi w h.pos O S T U W).mono fun r w' j=>⟨j.1,h.a8 j.2⟩

def jK (f n:Int):Edge:=if f=5 then⟨n,1⟩else⟨0,1⟩

theorem ym (f n:Int)(w:World)(t:bG f=true)(s:0≤n)(q:n≤16):Calls Tryz.prog 163 #[.int .u8 f,.int .i64 n] w fun e w'=>e=.returned (.agg #[.int .u8 (jK f n).tag,.int .u32 (jK f n).to])∧aa w w':=by
 have t:fT n=true:=by simp[fT,s,q]
 by_cases j:f=5
 ·subst j;go_enter Tryz.func163,Tryz.ntmps163
  go_wp2_with (first|(go_at_call 100;refine(ik _ _).mono ?_;rintro e w' ⟨rfl,rfl⟩)|(go_at_call 201;refine(kO _ _).mono ?_;rintro e w' ⟨rfl,rfl⟩)|fail)
  all_goals refine bodyPost_ret (v:=.agg #[.int .u8 n,.int .u32 1]) (by simp[results,Tryz.results163,go_sem]) rfl ⟨rfl,by(exact kp)⟩
 ·have q:(f==5)=false:=by simp[j]
  have e:jK f n=⟨0,1⟩:=if_neg j;rw[e];go_enter Tryz.func163,Tryz.ntmps163
  go_wp2_with (first|(go_at_call 100;refine(ik _ _).mono ?_;rintro e w' ⟨rfl,rfl⟩)|(go_at_call 201;refine(kO _ _).mono ?_;rintro e w' ⟨rfl,rfl⟩)|fail)
  all_goals refine bodyPost_ret (v:=.agg #[.int .u8 0,.int .u32 1]) (by simp[results,Tryz.results163,go_sem]) rfl ⟨rfl,by(exact kp)⟩

def gI (w:World)(a:Option Addr)(ws:List Int):Prop:=∀i x,ws[i]?=some x→(0≤x∧x<2 ^ 64)∧∃b off,a=some ⟨b,off,none⟩∧w.cell? ⟨b,off+i,none⟩=some (.int .u64 x)

theorem gI.U {w w':World}{a:Option Addr}{ws:List Int}(h:gI w a ws)(t:aa w w'):gI w' a ws:=fun i x z=>by
 obtain⟨j,b,off,q,s⟩:=h i x z;exact⟨j,b,off,q,t.cell s⟩

def cK (w:World)(g:Nat)(ps:List Int):Prop:=∃j:Array Value,w.heap[g]?=some (.cells j 56 (0,0))∧∀(i:Nat) (x:Int),ps[i]?=some x→j[i]?=some (Value.int .u64 x)

theorem cK.cell {w:World}{g:Nat}{ps:List Int}(h:cK w g ps){i:Nat}{x:Int}(s:ps[i]?=some x):w.cell? ⟨g,i,none⟩=some (.int .u64 x):=by
 obtain⟨t,j,q⟩:=h;rw[cell_of_row w g i _ _ _ j];simp only[q i x s]

theorem cK.frozen {w:World}{g:Nat}{ps:List Int}(h:cK w g ps)(i:Nat):w.frozen? ⟨g,i,none⟩=false:=by
 obtain⟨q,j,s⟩:=h;exact frozen_of_row w g i _ _ j

theorem cK.lt {w:World}{g:Nat}{ps:List Int}(h:cK w g ps):g<w.heap.size:=by
 obtain⟨q,j,s⟩:=h;exact aN j

theorem cK.a5 {G:Nat→Prop}{w w':World}{g:Nat}{ps:List Int}(h:cK w g ps)(A:ae G w w')(t:¬G g):cK w' g ps:=by
 have z:=h.lt;obtain⟨j,q,s⟩:=h;exact⟨j,(A.block g z t).trans q,s⟩

theorem cK.U {w w':World}{g:Nat}{ps:List Int}(h:cK w g ps)(j:aa w w'):cK w' g ps:=h.a5 (j.av (fun _=>False)) (fun h=>h)

theorem cK.fx {w:World}{g:Nat}{ps:List Int}(h:cK w g ps)(q:∀x∈ps,0≤x∧x<2 ^ 64):gI w (some ⟨g,0,none⟩) ps:=fun i x j=>⟨q x (List.mem_of_getElem? j),g,0,rfl,by rw[Nat.zero_add];exact h.cell j⟩

theorem cK.set {w:World}{g:Nat}{ps:List Int}(h:cK w g ps)(i:Nat)(y:Int)(hi:i<ps.length):cK (w.setCell ⟨g,i,none⟩ (.int .u64 y)) g (ps.set i y):=by
 obtain⟨z,A,s⟩:=h;refine⟨_,Go.heap_setCell_same w g i _ _ (.int .u64 y) A,fun t x j=>?_⟩;rw[Array.getElem?_setIfInBounds];by_cases q:i=t
 ·subst q;have E:=s i ps[i] (by simp[hi]);have I:i<z.size:=(Array.getElem?_eq_some_iff.1 E).1;rw[if_pos rfl,if_pos I];simp[hi]at j;rw[j]
 ·rw[if_neg q];rw[List.getElem?_set_ne q]at j;exact s t x j

theorem zH {w:World}{q n:Nat}(h:w.ownsRow q 56 1 (.slice (some ⟨q,0,none⟩) n n) n (madeCells (Value.int .u64 0).cells (n*1)).toList):cK w q (List.replicate n 0):=by
 have e:(madeCells (Value.int .u64 0).cells (n*1)).toList=(List.replicate n (0:Int)).map (Value.int .u64):=by
  rw[List.map_replicate,Nat.mul_one];simp[madeCells,Value.cells,Nat.mod_one];rw[List.map_const',List.length_range]
 rw[e]at h;rcases h.2 with⟨t,_⟩|⟨J,I,s,E,K,z,_,_,L,A⟩
 ·cases t
 ·cases E;obtain⟨t,E⟩:=bM h (k:=q) rfl;refine⟨s,z,fun i x q=>?_⟩;have j:((List.replicate n (0:Int)).map (Value.int .u64))[i]?=some (.int .u64 x):=by rw[List.getElem?_map,q];rfl
  rw[←A,List.getElem?_take]at j;split at j
  ·rw[Array.getElem?_toList]at j;exact j
  ·cases j

theorem wE:(Tryz.prog.info? 56).map (fun i=>(i.zero,i.size,i.bytes))=some (some (.int .u64 0),1,8):=by kernel_rfl

end Go.Proofs.YtafkamlhimkbmaaGreat
