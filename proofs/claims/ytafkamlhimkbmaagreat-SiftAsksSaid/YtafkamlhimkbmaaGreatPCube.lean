/-
  Arguments that came in, opened; and read again behind a call below which nothing has turned.
-/
import Derived.Test.YtafkamlhimkbmaaGreatPVSA
import Derived.ProofKit
import Derived.OpenShut
import Derived.ChangeOld
import Derived.Carry
import Derived.Lib.SmallJoins
import Derived.Deep.Slices
import Derived.Deep.Fields
namespace Go.Proofs.YtafkamlhimkbmaaGreat
set_option maxRecDepth 1000000
set_option maxHeartbeats 8000000
set_option linter.unusedSimpArgs false
set_option linter.unusedVariables false
open Go.ChangeShapes Go.WideShapes Go.ChangeAt Go.RowKit Go.Joins Go.Deep
theorem own:ownKnob Tryz.prog.godebug=none:=by kernel_rfl
theorem zg:laidOutB Tryz.prog=true:=by kernel_rfl
theorem wf_u8 {n:Int}(h:(Lit.int .u8 n).wf=true):0≤n∧n≤255:=by
 unfold Lit.wf at h;simp only[bT,bC]at h;exact h
theorem wf_u32 {n:Int}(h:(Lit.int .u32 n).wf=true):0≤n∧n≤4294967295:=by
 unfold Lit.wf at h;simp only[bT,bC]at h;exact h
theorem uc {H:Type}{enc:TypeId×Value→H}{P:Program}(E:laidOutB P=true){s W':World}(B:Below s.heap.size s W'):∀(ts:List TypeId) (q:List Value) (j:List (DataW H)) (ps:List MemPlace),
  (ts.all fun t=>P.readableRec t&&decide (t<P.types.size))=true→DataW.TrodAll enc P s 0 (fun _=>true) true ts q j ps→DataW.TrodAll enc P W' 0 (fun b=>decide (b<s.heap.size)) true ts q j ps
 |[],q,j,ps,_,h=>by cases q<;>cases j<;>simp_all [DataW.TrodAll]
 |t::ts,q,j,ps,z,h=>by
  obtain⟨v,N,d,I,p,L,rfl,rfl,rfl,A,J⟩:=trodAll_cons h;simp only[List.all_cons,bT,bC]at z;refine trodAll_cons_mk (Below.trod E z.1.1 z.1.2 A B ?_) (uc E B ts N I L z.2 J);obtain⟨m,j⟩:=A;exact DataW.trod_lt m _ _ _ j
def uC {j:Type}(k:Nat)(Q:j→List Value→Prop)(w:World)(a:Option Addr)(len:Nat)(rs:List j):Prop:=
 rs.length=len∧∀i r,rs[i]?=some r→∃b off cs,a=some ⟨b,off,none⟩∧Q r cs∧∀j,j<k→w.cell? ⟨b,off+i*k+j,none⟩=cs[j]?
theorem o6 {H:Type}{enc:TypeId×Value→H}{P:Program}{t:World}{J:Nat}{T:Nat→Bool}{held:Bool}{U e:TypeId}{k:Nat}{B:Type}[Inhabited B](Q:B→List Value→Prop)
  (al:P.underlying U=some (.slice e)) (S:P.cellsOf e=k) (I:0<k)
  (L:∀n cs x,DataW.trod enc P t J T held n e cs=some x→cs.length=k∧∃r,Q r cs)
  {a:Option Addr} {len cap:Nat} {d:DataW H} {p:List MemPlace} (h:DataW.Trod enc P t J T held U (.slice a len cap) d p):∃rs:List B,uC k Q t a len rs:=by
 obtain⟨fuel,X⟩:=h
 rcases open_slice al X with⟨s,_⟩|⟨x,l,c,m,n,D,J,s,_,T,_,Z,_,hi⟩
 ·simp[Value.cells]at s;obtain⟨rfl,rfl,rfl⟩:=s;exact⟨[],rfl,fun i r q=>by simp at q⟩
 ·simp[Value.cells]at s;obtain⟨rfl,rfl,rfl⟩:=s;have s:len≤m:=by rw[Z];split<;>omega
  have W:∀i,i<len→∃r:B,∃b off cs,x=⟨b,off,none⟩∧Q r cs∧∀j,j<k→t.cell? ⟨b,off+i*k+j,none⟩=cs[j]?:=by
   intro i E;obtain⟨cs,A,am⟩:=hi i (by omega);obtain⟨s,r,q⟩:=L _ _ _ am;rw[S]at A;obtain⟨_,_,N⟩:=World.cells?_some A;obtain⟨b,off,spot⟩:=x;have s:=N 0 I;rw[ar (by omega)]at s
   have ad:spot=none:=by
    by_cases t:i*k=0
    ·have z:=s;rw[t]at z;simpa[Addr.add]using World.cell?_spot z
    ·have z:=hi 0 (by omega);obtain⟨s,t,B⟩:=z;rw[S]at t;have s:=(World.cells?_some t).2.2 0 I;rw[ar (by rw[(L _ _ _ B).1];exact I)]at s;simpa[Addr.add]using World.cell?_spot s
   subst ad;refine⟨r,b,off,cs,rfl,q,fun j s=>?_⟩;have:=N j s;rw[add_add,Addr.add]at this;split at this
   ·rename_i s;rw[show off+i*k+j=off by omega];exact this
   ·rw[show off+i*k+j=off+(i*k+j) by omega];exact this
  obtain⟨f,Y⟩:=choose_lt W;refine⟨(List.range len).map f,by simp,fun i r q=>?_⟩;rw[dh,Option.map_eq_some_iff]at q;obtain⟨av,O,rfl⟩:=q;rw[List.getElem?_eq_some_iff]at O;obtain⟨E,rfl⟩:=O;simp only[List.length_range]at E;simp only[List.getElem_range];obtain⟨b,off,cs,rfl,ab,A⟩:=Y i E;exact⟨b,off,cs,rfl,ab,A⟩
theorem om {H:Type}{enc:TypeId×Value→H}{I:World}{J:Nat}{N:Nat→Bool}{held:Bool}{n:Nat}{cs:List Value}{x:DataW H×List MemPlace}
  (h:DataW.trod enc Tryz.prog I J N held n 52 cs=some x):∃e:Edge,e.ok∧cs=[.int .u8 e.tag,.int .u32 e.to]:=by
 obtain⟨xs,m,_,_,A,L,z⟩:=DataW.trod_struct Tryz.underlying52 h
 have I:Tryz.prog.cellsOf 52=2:=by kernel_rfl
 have E:Tryz.prog.cellsOf 5=1:=by kernel_rfl
 have B:Tryz.prog.cellsOf 50=1:=by kernel_rfl
 rw[I]at A
 have j:=z 0 _ rfl
 have q:=z 1 _ rfl
 rw[ar (by rw[L];decide)]at j q
 obtain⟨a,s,_,O⟩:=DataW.trod_int Tryz.underlying5 j
 obtain⟨b,t,_,wb⟩:=DataW.trod_int Tryz.underlying50 q
 match cs,A with
 |[j,q],_=>
  simp[E,B]at s t;exact⟨⟨a,b⟩,⟨wf_u8 O,wf_u32 wb⟩,by rw[s,t]⟩
theorem Bl {H:Type}{enc:TypeId×Value→H}{U:World}{W:Nat}{Y:Nat→Bool}{held:Bool}{n:Nat}{cs:List Value}{x:DataW H×List MemPlace}
  (h:DataW.trod enc Tryz.prog U W Y held n 134 cs=some x):∃r:Rec,r.ok∧cs=df r:=by
 obtain⟨xs,m,_,_,N,X,j⟩:=DataW.trod_struct Tryz.underlying134 h
 have U:Tryz.prog.cellsOf 134=7:=by kernel_rfl
 have T:Tryz.prog.cellsOf 53=1:=by kernel_rfl
 have O:Tryz.prog.cellsOf 5=1:=by kernel_rfl
 have S:Tryz.prog.cellsOf 52=2:=by kernel_rfl
 rw[U]at N
 have t:=j 0 _ rfl
 have z:=j 1 _ rfl
 have A:=j 2 _ rfl
 have B:=j 3 _ rfl
 have E:=j 4 _ rfl
 rw[ar (by rw[X];decide)]at t z A B E
 obtain⟨a,I,_,Z⟩:=DataW.trod_int Tryz.underlying53 t
 obtain⟨b,J,_,wb⟩:=DataW.trod_int Tryz.underlying5 z
 obtain⟨c,L,_,wc⟩:=DataW.trod_int Tryz.underlying5 A
 obtain⟨lo,ad,s⟩:=om B
 obtain⟨hi,ab,q⟩:=om E
 match cs,N with
 |[j,t,z,A,B,E,N],_=>
  simp[O,T,S]at I J L s q;refine⟨⟨a,b,c,lo,hi⟩,⟨wf_u8 Z,wf_u8 wb,wf_u8 wc,ad,ab⟩,?_⟩;rw[I,J,L,s.1,s.2,q.1,q.2];rfl
instance:Inhabited Rec:=⟨Rec.zero⟩
instance:Inhabited Edge:=⟨Edge.zero⟩
theorem Ai {H:Type}{enc:TypeId×Value→H}{s:World}{t:Nat}{I:Nat→Bool}{held:Bool}{a:Option Addr}{len cap:Nat}{d:DataW H}{p:List MemPlace}
  (h:DataW.Trod enc Tryz.prog s t I held 77 (.slice a len cap) d p):∃rs:List Rec,jl s a len rs:=by
 obtain⟨rs,q,j⟩:=o6 (k:=7) (fun(r:Rec) cs=>r.ok∧cs=df r) Tryz.underlying77 (by kernel_rfl) (by decide) (fun n cs x E=>by
  obtain⟨r,q,j⟩:=Bl E
  exact⟨by rw[j];rfl,r,q,j⟩) h
 refine⟨rs,q,fun i r B=>?_⟩
 obtain⟨b,off,cs,z,⟨A,rfl⟩,q⟩:=j i r B
 exact⟨A,b,off,z,q⟩
open Go.RowKit
theorem jl.ad {w j:World}{a:Option Addr}{len:Nat}{rs:List Rec}(h:jl w a len rs)(A:ae w j):jl j a len rs:=by
 refine⟨h.1,fun i r q=>?_⟩;obtain⟨s,b,off,t,z⟩:=h.2 i r q
 exact⟨s,b,off,t,fun q j=>by
  rw[ar (show q<(df r).length from j)]
  exact A.cell ((z q j).trans (ar (show q<(df r).length from j)))⟩
def eH (M:St)(f l:Int)(lo hi:Edge):(Edge×Int) ⊕ Rec:=
 if f=1 then az M 1 l lo hi (cW M l lo hi)else if f=2 then az M 2 l lo hi (dc M l lo hi)else if f=3 then az M 3 l lo hi (bk M l lo hi)
 else if f=4 then az M 4 l lo hi (bm M l lo hi)else if f=5 then bO M l lo hi else .inl (⟨0,0⟩,4)
def kE (M:St)(f:Int)(a:(Edge×Int) ⊕ Rec):Edge:=if f=5 then jU M a else eD M a
theorem yO {F:Nat→Prop}(R:World→World→Prop)(sb:Nat)(l a b t:Int)(lo hi:Edge)(w:World)(U:sb<w.heap.size)(E:∀k,F k→k<w.heap.size)
  (B:∀j,ae w j→Calls Tryz.prog 121 #[.pointer (some ⟨sb,0,none⟩),.int .i64 l,.agg #[.int .u8 lo.tag,.int .u32 lo.to],.agg #[.int .u8 hi.tag,.int .u32 hi.to]] j fun e w'=>e=.returned (.tuple #[.agg #[.int .u8 a,.int .u32 b],.int .u8 t])∧af F j w'∧R j w') :
  Calls Tryz.prog 71 #[.pointer (some ⟨sb,0,none⟩),.int .u8 1,.int .i64 l,.agg #[.int .u8 lo.tag,.int .u32 lo.to],.agg #[.int .u8 hi.tag,.int .u32 hi.to]] w fun e w'=>e=.returned (.tuple #[.agg #[.int .u8 a,.int .u32 b],.int .u8 t]) ∧
   ∃j s,ae w j∧af F j s∧R j s∧af (fun k=>w.heap.size≤k∧k<j.heap.size) s w':=by
 have J:=aa B
 have j:∀k,w.heap.size≤k→¬F k:=fun k z h=>by have:=E k h;omega
 have A:=j (w.heap.size+2) (by omega)
 clear B E j
 go_enter Tryz.func71,Tryz.ntmps71
 go_wp2_with (go_at_call 121;refine(J.out _ kp).mono ?_;rintro e I ⟨rfl,q,L⟩;have N:=q.size;(try simp only[ai,au,World.a5]at N);have S:=q.cell (a:=⟨w.heap.size+2,0,none⟩) A (v:=.int .u8 0) (by simp[go_sem]);have T:=q.cell (a:=⟨w.heap.size+2,1,none⟩) A (v:=.int .u32 0) (by simp[go_sem]);have j:=fun o:Nat=>q.frozen (a:=⟨w.heap.size+2,o,none⟩) (by simp[go_sem]) A (by simp[go_sem]);have O:w.heap.size+2<I.heap.size:=(by omega))
 all_goals refine aq (v:=.tuple #[.agg #[.int .u8 a,.int .u32 b],.int .u8 t]) (by simp[results,Tryz.results71,go_sem,O,S,T]) rfl ⟨rfl,_,I,kp,q,L,?_⟩
 all_goals(try simp only[ai,au,World.a5])
 all_goals(repeat (first|with_reducible exact af.refl _ _|exact af.mono j (fun k _ z=>⟨z.1,by(try simp only[ai,au,World.a5]);have:=z.2;omega⟩)|refine af.setCell ?_ (Or.inl (by dsimp only;omega)) _|refine af.setCell ?_ (Or.inr (by dsimp only;omega)) _|with_reducible refine af.drewN ?_ _|with_reducible refine af.drew ?_|with_reducible refine af.alloc ?_ _))
theorem yT {F:Nat→Prop}(R:World→World→Prop)(sb:Nat)(l a b t:Int)(lo hi:Edge)(w:World)(U:sb<w.heap.size)(E:∀k,F k→k<w.heap.size)
  (B:∀j,ae w j→Calls Tryz.prog 122 #[.pointer (some ⟨sb,0,none⟩),.int .i64 l,.agg #[.int .u8 lo.tag,.int .u32 lo.to],.agg #[.int .u8 hi.tag,.int .u32 hi.to]] j fun e w'=>e=.returned (.tuple #[.agg #[.int .u8 a,.int .u32 b],.int .u8 t])∧af F j w'∧R j w') :
  Calls Tryz.prog 71 #[.pointer (some ⟨sb,0,none⟩),.int .u8 2,.int .i64 l,.agg #[.int .u8 lo.tag,.int .u32 lo.to],.agg #[.int .u8 hi.tag,.int .u32 hi.to]] w fun e w'=>e=.returned (.tuple #[.agg #[.int .u8 a,.int .u32 b],.int .u8 t]) ∧
   ∃j s,ae w j∧af F j s∧R j s∧af (fun k=>w.heap.size≤k∧k<j.heap.size) s w':=by
 have J:=aa B
 have j:∀k,w.heap.size≤k→¬F k:=fun k z h=>by have:=E k h;omega
 have A:=j (w.heap.size+2) (by omega)
 clear B E j
 go_enter Tryz.func71,Tryz.ntmps71
 go_wp2_with (go_at_call 122;refine(J.out _ kp).mono ?_;rintro e I ⟨rfl,q,L⟩;have N:=q.size;(try simp only[ai,au,World.a5]at N);have S:=q.cell (a:=⟨w.heap.size+2,0,none⟩) A (v:=.int .u8 0) (by simp[go_sem]);have T:=q.cell (a:=⟨w.heap.size+2,1,none⟩) A (v:=.int .u32 0) (by simp[go_sem]);have j:=fun o:Nat=>q.frozen (a:=⟨w.heap.size+2,o,none⟩) (by simp[go_sem]) A (by simp[go_sem]);have O:w.heap.size+2<I.heap.size:=(by omega))
 all_goals refine aq (v:=.tuple #[.agg #[.int .u8 a,.int .u32 b],.int .u8 t]) (by simp[results,Tryz.results71,go_sem,O,S,T]) rfl ⟨rfl,_,I,kp,q,L,?_⟩
 all_goals(try simp only[ai,au,World.a5])
 all_goals(repeat (first|with_reducible exact af.refl _ _|exact af.mono j (fun k _ z=>⟨z.1,by(try simp only[ai,au,World.a5]);have:=z.2;omega⟩)|refine af.setCell ?_ (Or.inl (by dsimp only;omega)) _|refine af.setCell ?_ (Or.inr (by dsimp only;omega)) _|with_reducible refine af.drewN ?_ _|with_reducible refine af.drew ?_|with_reducible refine af.alloc ?_ _))
theorem yP {F:Nat→Prop}(R:World→World→Prop)(sb:Nat)(l a b t:Int)(lo hi:Edge)(w:World)(U:sb<w.heap.size)(E:∀k,F k→k<w.heap.size)
  (B:∀j,ae w j→Calls Tryz.prog 123 #[.pointer (some ⟨sb,0,none⟩),.int .i64 l,.agg #[.int .u8 lo.tag,.int .u32 lo.to],.agg #[.int .u8 hi.tag,.int .u32 hi.to]] j fun e w'=>e=.returned (.tuple #[.agg #[.int .u8 a,.int .u32 b],.int .u8 t])∧af F j w'∧R j w') :
  Calls Tryz.prog 71 #[.pointer (some ⟨sb,0,none⟩),.int .u8 3,.int .i64 l,.agg #[.int .u8 lo.tag,.int .u32 lo.to],.agg #[.int .u8 hi.tag,.int .u32 hi.to]] w fun e w'=>e=.returned (.tuple #[.agg #[.int .u8 a,.int .u32 b],.int .u8 t]) ∧
   ∃j s,ae w j∧af F j s∧R j s∧af (fun k=>w.heap.size≤k∧k<j.heap.size) s w':=by
 have J:=aa B
 have j:∀k,w.heap.size≤k→¬F k:=fun k z h=>by have:=E k h;omega
 have A:=j (w.heap.size+2) (by omega)
 clear B E j
 go_enter Tryz.func71,Tryz.ntmps71
 go_wp2_with (go_at_call 123;refine(J.out _ kp).mono ?_;rintro e I ⟨rfl,q,L⟩;have N:=q.size;(try simp only[ai,au,World.a5]at N);have S:=q.cell (a:=⟨w.heap.size+2,0,none⟩) A (v:=.int .u8 0) (by simp[go_sem]);have T:=q.cell (a:=⟨w.heap.size+2,1,none⟩) A (v:=.int .u32 0) (by simp[go_sem]);have j:=fun o:Nat=>q.frozen (a:=⟨w.heap.size+2,o,none⟩) (by simp[go_sem]) A (by simp[go_sem]);have O:w.heap.size+2<I.heap.size:=(by omega))
 all_goals refine aq (v:=.tuple #[.agg #[.int .u8 a,.int .u32 b],.int .u8 t]) (by simp[results,Tryz.results71,go_sem,O,S,T]) rfl ⟨rfl,_,I,kp,q,L,?_⟩
 all_goals(try simp only[ai,au,World.a5])
 all_goals(repeat (first|with_reducible exact af.refl _ _|exact af.mono j (fun k _ z=>⟨z.1,by(try simp only[ai,au,World.a5]);have:=z.2;omega⟩)|refine af.setCell ?_ (Or.inl (by dsimp only;omega)) _|refine af.setCell ?_ (Or.inr (by dsimp only;omega)) _|with_reducible refine af.drewN ?_ _|with_reducible refine af.drew ?_|with_reducible refine af.alloc ?_ _))
theorem yR {F:Nat→Prop}(R:World→World→Prop)(sb:Nat)(l a b t:Int)(lo hi:Edge)(w:World)(U:sb<w.heap.size)(E:∀k,F k→k<w.heap.size)
  (B:∀j,ae w j→Calls Tryz.prog 124 #[.pointer (some ⟨sb,0,none⟩),.int .i64 l,.agg #[.int .u8 lo.tag,.int .u32 lo.to],.agg #[.int .u8 hi.tag,.int .u32 hi.to]] j fun e w'=>e=.returned (.tuple #[.agg #[.int .u8 a,.int .u32 b],.int .u8 t])∧af F j w'∧R j w') :
  Calls Tryz.prog 71 #[.pointer (some ⟨sb,0,none⟩),.int .u8 4,.int .i64 l,.agg #[.int .u8 lo.tag,.int .u32 lo.to],.agg #[.int .u8 hi.tag,.int .u32 hi.to]] w fun e w'=>e=.returned (.tuple #[.agg #[.int .u8 a,.int .u32 b],.int .u8 t]) ∧
   ∃j s,ae w j∧af F j s∧R j s∧af (fun k=>w.heap.size≤k∧k<j.heap.size) s w':=by
 have J:=aa B
 have j:∀k,w.heap.size≤k→¬F k:=fun k z h=>by have:=E k h;omega
 have A:=j (w.heap.size+2) (by omega)
 clear B E j
 go_enter Tryz.func71,Tryz.ntmps71
 go_wp2_with (go_at_call 124;refine(J.out _ kp).mono ?_;rintro e I ⟨rfl,q,L⟩;have N:=q.size;(try simp only[ai,au,World.a5]at N);have S:=q.cell (a:=⟨w.heap.size+2,0,none⟩) A (v:=.int .u8 0) (by simp[go_sem]);have T:=q.cell (a:=⟨w.heap.size+2,1,none⟩) A (v:=.int .u32 0) (by simp[go_sem]);have j:=fun o:Nat=>q.frozen (a:=⟨w.heap.size+2,o,none⟩) (by simp[go_sem]) A (by simp[go_sem]);have O:w.heap.size+2<I.heap.size:=(by omega))
 all_goals refine aq (v:=.tuple #[.agg #[.int .u8 a,.int .u32 b],.int .u8 t]) (by simp[results,Tryz.results71,go_sem,O,S,T]) rfl ⟨rfl,_,I,kp,q,L,?_⟩
 all_goals(try simp only[ai,au,World.a5])
 all_goals(repeat (first|with_reducible exact af.refl _ _|exact af.mono j (fun k _ z=>⟨z.1,by(try simp only[ai,au,World.a5]);have:=z.2;omega⟩)|refine af.setCell ?_ (Or.inl (by dsimp only;omega)) _|refine af.setCell ?_ (Or.inr (by dsimp only;omega)) _|with_reducible refine af.drewN ?_ _|with_reducible refine af.drew ?_|with_reducible refine af.alloc ?_ _))
theorem yS {F:Nat→Prop}(R:World→World→Prop)(sb:Nat)(l a b t:Int)(lo hi:Edge)(w:World)(U:sb<w.heap.size)(E:∀k,F k→k<w.heap.size)
  (B:∀j,ae w j→Calls Tryz.prog 125 #[.pointer (some ⟨sb,0,none⟩),.int .i64 l,.agg #[.int .u8 lo.tag,.int .u32 lo.to],.agg #[.int .u8 hi.tag,.int .u32 hi.to]] j fun e w'=>e=.returned (.tuple #[.agg #[.int .u8 a,.int .u32 b],.int .u8 t])∧af F j w'∧R j w') :
  Calls Tryz.prog 71 #[.pointer (some ⟨sb,0,none⟩),.int .u8 5,.int .i64 l,.agg #[.int .u8 lo.tag,.int .u32 lo.to],.agg #[.int .u8 hi.tag,.int .u32 hi.to]] w fun e w'=>e=.returned (.tuple #[.agg #[.int .u8 a,.int .u32 b],.int .u8 t]) ∧
   ∃j s,ae w j∧af F j s∧R j s∧af (fun k=>w.heap.size≤k∧k<j.heap.size) s w':=by
 have J:=aa B
 have j:∀k,w.heap.size≤k→¬F k:=fun k z h=>by have:=E k h;omega
 have A:=j (w.heap.size+2) (by omega)
 clear B E j
 go_enter Tryz.func71,Tryz.ntmps71
 go_wp2_with (go_at_call 125;refine(J.out _ kp).mono ?_;rintro e I ⟨rfl,q,L⟩;have N:=q.size;(try simp only[ai,au,World.a5]at N);have S:=q.cell (a:=⟨w.heap.size+2,0,none⟩) A (v:=.int .u8 0) (by simp[go_sem]);have T:=q.cell (a:=⟨w.heap.size+2,1,none⟩) A (v:=.int .u32 0) (by simp[go_sem]);have j:=fun o:Nat=>q.frozen (a:=⟨w.heap.size+2,o,none⟩) (by simp[go_sem]) A (by simp[go_sem]);have O:w.heap.size+2<I.heap.size:=(by omega))
 all_goals refine aq (v:=.tuple #[.agg #[.int .u8 a,.int .u32 b],.int .u8 t]) (by simp[results,Tryz.results71,go_sem,O,S,T]) rfl ⟨rfl,_,I,kp,q,L,?_⟩
 all_goals(try simp only[ai,au,World.a5])
 all_goals(repeat (first|with_reducible exact af.refl _ _|exact af.mono j (fun k _ z=>⟨z.1,by(try simp only[ai,au,World.a5]);have:=z.2;omega⟩)|refine af.setCell ?_ (Or.inl (by dsimp only;omega)) _|refine af.setCell ?_ (Or.inr (by dsimp only;omega)) _|with_reducible refine af.drewN ?_ _|with_reducible refine af.drew ?_|with_reducible refine af.alloc ?_ _))
theorem yQ (sb:Nat)(f l:Int)(lo hi:Edge)(w:World)(A:sb<w.heap.size)(j:f≠1)(q:f≠2)(s:f≠3)(t:f≠4)(z:f≠5) :
  Calls Tryz.prog 71 #[.pointer (some ⟨sb,0,none⟩),.int .u8 f,.int .i64 l,.agg #[.int .u8 lo.tag,.int .u32 lo.to],.agg #[.int .u8 hi.tag,.int .u32 hi.to]] w fun e w'=>e=.returned (.tuple #[.agg #[.int .u8 0,.int .u32 0],.int .u8 4])∧ae w w':=by
 have A:(f==1)=false:=by simp[j]
 have A:(f==2)=false:=by simp[q]
 have A:(f==3)=false:=by simp[s]
 have A:(f==4)=false:=by simp[t]
 have A:(f==5)=false:=by simp[z]
 clear j q s t z
 go_enter Tryz.func71,Tryz.ntmps71
 go_wp2
 all_goals refine aq (v:=.tuple #[.agg #[.int .u8 0,.int .u32 0],.int .u8 4]) (by simp[results,Tryz.results71,go_sem]) rfl ⟨rfl,kp⟩
theorem lX {F:Nat→Prop}{w:World}{sb:Nat}{M:St}(h:ak F w sb M)(f l:Int)(lo hi:Edge)(L:lo.ok)(J:hi.ok) :
  Calls Tryz.prog 71 #[.pointer (some ⟨sb,0,none⟩),.int .u8 f,.int .i64 l,.agg #[.int .u8 lo.tag,.int .u32 lo.to],.agg #[.int .u8 hi.tag,.int .u32 hi.to]] w fun r w'=>
   r=.returned (.tuple #[.agg #[.int .u8 (kE M f (eH M f l lo hi)).tag,.int .u32 (kE M f (eH M f l lo hi)).to],.int .u8 (cV M (eH M f l lo hi))])∧af F w w'∧ak (aC F w w') w' sb (aX M (eH M f l lo hi)):=by
 by_cases N:f=1
 ·subst N;have s:eH M 1 l lo hi=az M 1 l lo hi (cW M l lo hi):=rfl;have t:kE M 1 (eH M 1 l lo hi)=eD M (az M 1 l lo hi (cW M l lo hi)):=by rw[s];rfl
  rw[t,s];refine(yO (fun j q=>ak (aC F j q) q sb (aX M (az M 1 l lo hi (cW M l lo hi)))) sb l _ _ _ lo hi w h.pos h.lt (fun j z=>vy (h.ad z) l lo hi L J)).mono ?_;rintro e w' ⟨rfl,j,q,A,B,E,I⟩;exact⟨rfl,E.after h.lt A B I⟩
 by_cases O:f=2
 ·subst O;have s:eH M 2 l lo hi=az M 2 l lo hi (dc M l lo hi):=rfl;have t:kE M 2 (eH M 2 l lo hi)=eD M (az M 2 l lo hi (dc M l lo hi)):=by rw[s];rfl
  rw[t,s];refine(yT (fun j q=>ak (aC F j q) q sb (aX M (az M 2 l lo hi (dc M l lo hi)))) sb l _ _ _ lo hi w h.pos h.lt (fun j z=>Ep (h.ad z) l lo hi L J)).mono ?_;rintro e w' ⟨rfl,j,q,A,B,E,I⟩;exact⟨rfl,E.after h.lt A B I⟩
 by_cases S:f=3
 ·subst S;have s:eH M 3 l lo hi=az M 3 l lo hi (bk M l lo hi):=rfl;have t:kE M 3 (eH M 3 l lo hi)=eD M (az M 3 l lo hi (bk M l lo hi)):=by rw[s];rfl
  rw[t,s];refine(yP (fun j q=>ak (aC F j q) q sb (aX M (az M 3 l lo hi (bk M l lo hi)))) sb l _ _ _ lo hi w h.pos h.lt (fun j z=>wI (h.ad z) l lo hi L J)).mono ?_;rintro e w' ⟨rfl,j,q,A,B,E,I⟩;exact⟨rfl,E.after h.lt A B I⟩
 by_cases T:f=4
 ·subst T;have s:eH M 4 l lo hi=az M 4 l lo hi (bm M l lo hi):=rfl;have t:kE M 4 (eH M 4 l lo hi)=eD M (az M 4 l lo hi (bm M l lo hi)):=by rw[s];rfl
  rw[t,s];refine(yR (fun j q=>ak (aC F j q) q sb (aX M (az M 4 l lo hi (bm M l lo hi)))) sb l _ _ _ lo hi w h.pos h.lt (fun j z=>xn (h.ad z) l lo hi L J)).mono ?_;rintro e w' ⟨rfl,j,q,A,B,E,I⟩;exact⟨rfl,E.after h.lt A B I⟩
 by_cases U:f=5
 ·subst U;have s:eH M 5 l lo hi=bO M l lo hi:=rfl;have t:kE M 5 (eH M 5 l lo hi)=jU M (bO M l lo hi):=by rw[s];rfl
  rw[t,s];refine(yS (fun j q=>ak (aC F j q) q sb (aX M (bO M l lo hi))) sb l _ _ _ lo hi w h.pos h.lt (fun j z=>Dv (h.ad z) l lo hi L J)).mono ?_;rintro e w' ⟨rfl,j,q,A,B,E,I⟩;exact⟨rfl,E.after h.lt A B I⟩
 have s:eH M f l lo hi=.inl (⟨0,0⟩,4):=by unfold eH;rw[ag N,ag O,ag S,ag T,ag U]
 have t:kE M f (eH M f l lo hi)=⟨0,0⟩:=by rw[s];unfold kE;split<;>rfl
 rw[t,s]
 exact(yQ sb f l lo hi w h.pos N O S T U).mono fun r w' j=>⟨j.1,h.bf j.2⟩
def lz (f n:Int):Edge:=if f=5 then⟨n,1⟩else⟨0,1⟩
theorem Ag (f n:Int)(w:World)(t:aR f=true)(s:0≤n)(q:n≤16):Calls Tryz.prog 163 #[.int .u8 f,.int .i64 n] w fun e w'=>e=.returned (.agg #[.int .u8 (lz f n).tag,.int .u32 (lz f n).to])∧ae w w':=by
 have t:fQ n=true:=by simp[fQ,s,q]
 by_cases j:f=5
 ·subst j;go_enter Tryz.func163,Tryz.ntmps163;go_wp2_with (first|(go_at_call 100;refine(jg _ _).mono ?_;rintro e w' ⟨rfl,rfl⟩)|(go_at_call 201;refine(my _ _).mono ?_;rintro e w' ⟨rfl,rfl⟩)|fail)
  all_goals refine aq (v:=.agg #[.int .u8 n,.int .u32 1]) (by simp[results,Tryz.results163,go_sem]) rfl ⟨rfl,kp⟩
 ·have q:(f==5)=false:=by simp[j]
  have e:lz f n=⟨0,1⟩:=ag j;rw[e];go_enter Tryz.func163,Tryz.ntmps163;go_wp2_with (first|(go_at_call 100;refine(jg _ _).mono ?_;rintro e w' ⟨rfl,rfl⟩)|(go_at_call 201;refine(my _ _).mono ?_;rintro e w' ⟨rfl,rfl⟩)|fail)
  all_goals refine aq (v:=.agg #[.int .u8 0,.int .u32 1]) (by simp[results,Tryz.results163,go_sem]) rfl ⟨rfl,kp⟩
def iB (w:World)(a:Option Addr)(ws:List Int):Prop:=∀i x,ws[i]?=some x→(0≤x∧x<2 ^ 64)∧∃b off,a=some ⟨b,off,none⟩∧w.cell? ⟨b,off+i,none⟩=some (.int .u64 x)
theorem iB.ad {w w':World}{a:Option Addr}{ws:List Int}(h:iB w a ws)(t:ae w w'):iB w' a ws:=fun i x z=>by
 obtain⟨j,b,off,q,s⟩:=h i x z;exact⟨j,b,off,q,t.cell s⟩
def bJ (w:World)(g:Nat)(ps:List Int):Prop:=∃j:Array Value,w.heap[g]?=some (.cells j 56 (0,0))∧∀(i:Nat) (x:Int),ps[i]?=some x→j[i]?=some (Value.int .u64 x)
theorem bJ.cell {w:World}{g:Nat}{ps:List Int}(h:bJ w g ps){i:Nat}{x:Int}(s:ps[i]?=some x):w.cell? ⟨g,i,none⟩=some (.int .u64 x):=by
 obtain⟨t,j,q⟩:=h;rw[cell_of_row w g i _ _ _ j];simp only[q i x s]
theorem bJ.frozen {w:World}{g:Nat}{ps:List Int}(h:bJ w g ps)(i:Nat):w.frozen? ⟨g,i,none⟩=false:=by
 obtain⟨q,j,s⟩:=h;exact frozen_of_row w g i _ _ j
theorem bJ.lt {w:World}{g:Nat}{ps:List Int}(h:bJ w g ps):g<w.heap.size:=by
 obtain⟨q,j,s⟩:=h;exact aM j
theorem bJ.a4 {G:Nat→Prop}{w w':World}{g:Nat}{ps:List Int}(h:bJ w g ps)(A:af G w w')(t:¬G g):bJ w' g ps:=by
 have z:=h.lt;obtain⟨j,q,s⟩:=h;exact⟨j,(A.block g z t).trans q,s⟩
theorem bJ.ad {w w':World}{g:Nat}{ps:List Int}(h:bJ w g ps)(j:ae w w'):bJ w' g ps:=h.a4 (j.av (fun _=>False)) (fun h=>h)
theorem bJ.fl {w:World}{g:Nat}{ps:List Int}(h:bJ w g ps)(q:∀x∈ps,0≤x∧x<2 ^ 64):iB w (some ⟨g,0,none⟩) ps:=fun i x j=>⟨q x (bB j),g,0,rfl,by rw[dK];exact h.cell j⟩
theorem bJ.set {w:World}{g:Nat}{ps:List Int}(h:bJ w g ps)(i:Nat)(y:Int)(hi:i<ps.length):bJ (w.setCell ⟨g,i,none⟩ (.int .u64 y)) g (ps.set i y):=by
 obtain⟨z,A,s⟩:=h;refine⟨_,Go.heap_setCell_same w g i _ _ (.int .u64 y) A,fun t x j=>?_⟩;rw[dA];by_cases q:i=t
 ·subst q;have B:=s i ps[i] (by simp[hi]);have E:i<z.size:=(Array.getElem?_eq_some_iff.1 B).1;rw[ah rfl,ah E];simp[hi]at j;rw[j]
 ·rw[ag q];rw[fK q]at j;exact s t x j
theorem ti {w:World}{q n:Nat}(h:w.ownsRow q 56 1 (.slice (some ⟨q,0,none⟩) n n) n (madeCells (Value.int .u64 0).cells (n*1)).toList):bJ w q (List.replicate n 0):=by
 have e:(madeCells (Value.int .u64 0).cells (n*1)).toList=(List.replicate n (0:Int)).map (Value.int .u64):=by
  rw[List.map_replicate,Nat.mul_one];simp[madeCells,Value.cells,Nat.mod_one];rw[List.map_const',List.length_range]
 rw[e]at h;rcases h.2 with⟨t,_⟩|⟨I,E,s,B,J,z,_,_,L,A⟩
 ·cases t
 ·cases B;obtain⟨t,B⟩:=bF h (k:=q) rfl;refine⟨s,z,fun i x q=>?_⟩;have j:((List.replicate n (0:Int)).map (Value.int .u64))[i]?=some (.int .u64 x):=by rw[dh,q];rfl
  rw[←A,ju]at j;split at j
  ·rw[Array.getElem?_toList]at j;exact j
  ·cases j
theorem rB:(Tryz.prog.info? 56).map (fun i=>(i.zero,i.size,i.bytes))=some (some (.int .u64 0),1,8):=by kernel_rfl
end Go.Proofs.YtafkamlhimkbmaaGreat
