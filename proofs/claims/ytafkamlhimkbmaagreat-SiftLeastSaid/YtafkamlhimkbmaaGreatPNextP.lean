/-
  Arguments that came in, opened; and read again behind a call below which nothing has turned.
-/
import Derived.Test.YtafkamlhimkbmaaGreatPMakeBZ
import Derived.Test.YtafkamlhimkbmaaGreatPMakeC
import Derived.Test.YtafkamlhimkbmaaGreatPMakeQ
import Derived.Test.YtafkamlhimkbmaaGreatPViewQ
import Derived.ProofKit
import Derived.OpenShut
import Derived.ChangeOld
import Derived.Carry
import Derived.Lib.SmallJoins
import Derived.Deep.Slices
import Derived.Deep.Fields
namespace Go.Proofs.YtafkamlhimkbmaaGreat
set_option maxRecDepth 1000000
set_option maxHeartbeats 8000000
set_option linter.unusedSimpArgs false
set_option linter.unusedVariables false
open Go.ChangeShapes Go.WideShapes Go.ChangeAt Go.RowKit Go.Joins Go.Deep

theorem own:ownKnob Tryz.prog.godebug=none:=by kernel_rfl

theorem wR:laidOutB Tryz.prog=true:=by kernel_rfl

theorem wf_u8 {n:Int}(h:(Lit.int .u8 n).wf=true):0≤n∧n≤255:=by
 unfold Lit.wf at h;simp only[Bool.and_eq_true,decide_eq_true_eq]at h;exact h

theorem re {H:Type}{enc:TypeId×Value→H}{P:Program}(I:laidOutB P=true){s W':World}(E:Below s.heap.size s W'):∀(ts:List TypeId) (q:List Value) (j:List (DataW H)) (ps:List MemPlace),
  (ts.all fun t=>P.readableRec t&&decide (t<P.types.size))=true→DataW.TrodAll enc P s 0 (fun _=>true) true ts q j ps→DataW.TrodAll enc P W' 0 (fun b=>decide (b<s.heap.size)) true ts q j ps
 |[],q,j,ps,_,h=>by cases q<;>cases j<;>simp_all [DataW.TrodAll]
 |t::ts,q,j,ps,z,h=>by
  obtain⟨v,N,d,J,p,L,rfl,rfl,rfl,A,K⟩:=trodAll_cons h;simp only[List.all_cons,Bool.and_eq_true,decide_eq_true_eq]at z;refine trodAll_cons_mk (Below.trod I z.1.1 z.1.2 A E ?_) (re I E ts N J L z.2 K);obtain⟨m,j⟩:=A;exact DataW.trod_lt m _ _ _ j

def rJ {j:Type}(k:Nat)(Q:j→List Value→Prop)(w:World)(a:Option Addr)(len:Nat)(rs:List j):Prop:=
 rs.length=len∧∀i r,rs[i]?=some r→∃b off cs,a=some ⟨b,off,none⟩∧Q r cs∧∀j,j<k→w.cell? ⟨b,off+i*k+j,none⟩=cs[j]?

theorem pU {H:Type}{enc:TypeId×Value→H}{P:Program}{t:World}{K:Nat}{T:Nat→Bool}{held:Bool}{U e:TypeId}{k:Nat}{E:Type}[Inhabited E](Q:E→List Value→Prop)
  (am:P.underlying U=some (.slice e)) (S:P.cellsOf e=k) (J:0<k)
  (L:∀n cs x,DataW.trod enc P t K T held n e cs=some x→cs.length=k∧∃r,Q r cs)
  {a:Option Addr} {len cap:Nat} {d:DataW H} {p:List MemPlace} (h:DataW.Trod enc P t K T held U (.slice a len cap) d p):∃rs:List E,rJ k Q t a len rs:=by
 obtain⟨fuel,X⟩:=h
 rcases open_slice am X with⟨s,_⟩|⟨x,l,c,m,n,D,K,s,_,T,_,Z,_,hi⟩
 ·simp[Value.cells]at s;obtain⟨rfl,rfl,rfl⟩:=s;exact⟨[],rfl,fun i r q=>by simp at q⟩
 ·simp[Value.cells]at s;obtain⟨rfl,rfl,rfl⟩:=s;have s:len≤m:=by rw[Z];split<;>omega
  have W:∀i,i<len→∃r:E,∃b off cs,x=⟨b,off,none⟩∧Q r cs∧∀j,j<k→t.cell? ⟨b,off+i*k+j,none⟩=cs[j]?:=by
   intro i I;obtain⟨cs,A,av⟩:=hi i (by omega);obtain⟨s,r,q⟩:=L _ _ _ av;rw[S]at A;obtain⟨_,_,N⟩:=World.cells?_some A;obtain⟨b,off,spot⟩:=x;have s:=N 0 J;rw[List.getElem?_eq_getElem (by omega)]at s
   have ad:spot=none:=by
    by_cases t:i*k=0
    ·have z:=s;rw[t]at z;simpa[Addr.add]using World.cell?_spot z
    ·have z:=hi 0 (by omega);obtain⟨s,t,E⟩:=z;rw[S]at t;have s:=(World.cells?_some t).2.2 0 J;rw[List.getElem?_eq_getElem (by rw[(L _ _ _ E).1];exact J)]at s;simpa[Addr.add]using World.cell?_spot s
   subst ad;refine⟨r,b,off,cs,rfl,q,fun j s=>?_⟩;have:=N j s;rw[add_add,Addr.add]at this;split at this
   ·rename_i s;rw[show off+i*k+j=off by omega];exact this
   ·rw[show off+i*k+j=off+(i*k+j) by omega];exact this
  obtain⟨f,Y⟩:=choose_lt W;refine⟨(List.range len).map f,by simp,fun i r q=>?_⟩;rw[List.getElem?_map,Option.map_eq_some_iff]at q;obtain⟨aw,O,rfl⟩:=q;rw[List.getElem?_eq_some_iff]at O;obtain⟨I,rfl⟩:=O;simp only[List.length_range]at I;simp only[List.getElem_range];obtain⟨b,off,cs,rfl,ab,A⟩:=Y i I;exact⟨b,off,cs,rfl,ab,A⟩

instance:Inhabited Rec:=⟨Rec.zero⟩

instance:Inhabited Edge:=⟨Edge.zero⟩

open Go.RowKit

theorem sw {F:Nat→Prop}{w:World}{s:Nat}{M:St}(h:ag F w s M)(l:Int)(lo hi:Edge)(Y:lo.ok)(X:hi.ok) :
  Calls Tryz.prog 121 #[.pointer (some ⟨s,0,none⟩),.int .i64 l,.agg #[.int .u8 lo.tag,.int .u32 lo.to],.agg #[.int .u8 hi.tag,.int .u32 hi.to]] w fun r z=>
   r=.returned (.tuple #[.agg #[.int .u8 (dv M (ak M 1 l lo hi (bT M l lo hi))).tag,.int .u32 (dv M (ak M 1 l lo hi (bT M l lo hi))).to],.int .u8 (bS M (ak M 1 l lo hi (bT M l lo hi)))])∧ae F w z∧ag (ao F w z) z s (aM M (ak M 1 l lo hi (bT M l lo hi))):=by
 have K:=h.wf.br
 have L:=fun(q:World) (E:aa w q)=>dz (h.U E)
 have I:=fun(q:World) (E:aa w q)=>cV (h.U E) 1 lo (l+1) Y
 have O:=fun(q:World) (E:aa w q)=>cV (h.U E) 1 hi (l+1) X
 by_cases W:l<0∨M.n≤l
 ·have N:ak M 1 l lo hi (bT M l lo hi)=.inl (⟨0,0⟩,3):=if_pos W;rw[N];by_cases Z:l<0;·exact(sY s l M.n lo hi w K h.pos L Z).mono fun r z j=>⟨j.1,h.a8 j.2⟩
  ·exact(sU s l M.n lo hi w K h.pos L (by omega) (by omega)).mono fun r z j=>⟨j.1,h.a8 j.2⟩
 ·have J:0≤l:=by omega
  have S:l<M.n:=by omega
  by_cases t:M.leads 1 lo (l+1)=false∨M.leads 1 hi (l+1)=false
  ·have N:ak M 1 l lo hi (bT M l lo hi)=.inl (⟨0,0⟩,1):=(by unfold ak;rw[if_neg W,if_pos t]);rw[N];rcases cI (M.leads 1 lo (l+1))with A|A
   ·rw[A]at I;exact(sX s l M.n lo hi w K h.pos L J S I).mono fun r z j=>⟨j.1,h.a8 j.2⟩
   ·have U:M.leads 1 hi (l+1)=false:=(by rcases t with t|t;rw[t]at A;cases A;exact t);rw[A]at I;rw[U]at O;exact(sW s l M.n lo hi w K h.pos L J S I O).mono fun r z j=>⟨j.1,h.a8 j.2⟩
  ·have A:M.leads 1 lo (l+1)=true:=(by rcases cI (M.leads 1 lo (l+1))with b|b;exact(t (.inl b)).elim;exact b);have U:M.leads 1 hi (l+1)=true:=(by rcases cI (M.leads 1 hi (l+1))with b|b;exact(t (.inr b)).elim;exact b);have N:ak M 1 l lo hi (bT M l lo hi)=bT M l lo hi:=(by unfold ak;rw[if_neg W,if_neg t]);rw[N];rw[A]at I;rw[U]at O;by_cases t:lo=hi
   ·have A:bT M l lo hi=.inl (lo,0):=if_pos t;rw[A];exact(sZ s l M.n lo hi w K h.pos L J S I O t).mono fun r z j=>⟨j.1,h.a8 j.2⟩
   have j:(⟨1,l,l,lo,hi⟩:Rec).ok:=iW (by decide) J (by omega) ⟨J,by omega⟩ Y X;have A:bT M l lo hi=.inr ⟨1,l,l,lo,hi⟩:=if_neg t;rw[A];have A:=fun(q:World) (E:aa w q)=>sv (h.U E) ⟨1,l,l,lo,hi⟩ j;refine(sV (fun q T=>ag (ao F q T) T s (M.a6 ⟨1,l,l,lo,hi⟩)) s l M.n lo hi _ _ _ w K h.pos L J S I O t h.lt A).mono ?_;rintro e z ⟨rfl,q,T,ab,ad,am,av⟩;exact⟨rfl,am.after h.lt ab ad av⟩

theorem Cs {F:Nat→Prop}{w:World}{s:Nat}{M:St}(h:ag F w s M)(l:Int)(lo hi:Edge)(ab:lo.ok)(Z:hi.ok) :
  Calls Tryz.prog 122 #[.pointer (some ⟨s,0,none⟩),.int .i64 l,.agg #[.int .u8 lo.tag,.int .u32 lo.to],.agg #[.int .u8 hi.tag,.int .u32 hi.to]] w fun r z=>
   r=.returned (.tuple #[.agg #[.int .u8 (dv M (ak M 2 l lo hi (bX M l lo hi))).tag,.int .u32 (dv M (ak M 2 l lo hi (bX M l lo hi))).to],.int .u8 (bS M (ak M 2 l lo hi (bX M l lo hi)))])∧ae F w z∧ag (ao F w z) z s (aM M (ak M 2 l lo hi (bX M l lo hi))):=by
 have K:=h.wf.br
 have L:=fun(q:World) (E:aa w q)=>dz (h.U E)
 have I:=fun(q:World) (E:aa w q)=>cV (h.U E) 2 lo (l+1) ab
 have O:=fun(q:World) (E:aa w q)=>cV (h.U E) 2 hi (l+1) Z
 by_cases X:l<0∨M.n≤l
 ·have N:ak M 2 l lo hi (bX M l lo hi)=.inl (⟨0,0⟩,3):=if_pos X;rw[N];by_cases ad:l<0;·exact(CC s l M.n lo hi w K h.pos L ad).mono fun r z j=>⟨j.1,h.a8 j.2⟩
  ·exact(Cy s l M.n lo hi w K h.pos L (by omega) (by omega)).mono fun r z j=>⟨j.1,h.a8 j.2⟩
 ·have J:0≤l:=by omega
  have T:l<M.n:=by omega
  by_cases t:M.leads 2 lo (l+1)=false∨M.leads 2 hi (l+1)=false
  ·have N:ak M 2 l lo hi (bX M l lo hi)=.inl (⟨0,0⟩,1):=(by unfold ak;rw[if_neg X,if_pos t]);rw[N];rcases cI (M.leads 2 lo (l+1))with A|A
   ·rw[A]at I;exact(CB s l M.n lo hi w K h.pos L J T I).mono fun r z j=>⟨j.1,h.a8 j.2⟩
   ·have W:M.leads 2 hi (l+1)=false:=(by rcases t with t|t;rw[t]at A;cases A;exact t);rw[A]at I;rw[W]at O;exact(CA s l M.n lo hi w K h.pos L J T I O).mono fun r z j=>⟨j.1,h.a8 j.2⟩
  ·have A:M.leads 2 lo (l+1)=true:=(by rcases cI (M.leads 2 lo (l+1))with b|b;exact(t (.inl b)).elim;exact b);have W:M.leads 2 hi (l+1)=true:=(by rcases cI (M.leads 2 hi (l+1))with b|b;exact(t (.inr b)).elim;exact b);have N:ak M 2 l lo hi (bX M l lo hi)=bX M l lo hi:=(by unfold ak;rw[if_neg X,if_neg t]);rw[N];rw[A]at I;rw[W]at O;by_cases S:hi.to=0
   ·have Y:bX M l lo hi=.inl (lo,0):=if_pos S;rw[Y];obtain⟨a2,t⟩:=hi;dsimp only at S;subst S;exact(CD s l M.n lo a2 w K h.pos L J T I O).mono fun r z j=>⟨j.1,h.a8 j.2⟩
   have j:(⟨2,l,l,lo,hi⟩:Rec).ok:=iW (by decide) J (by omega) ⟨J,by omega⟩ ab Z;have Y:bX M l lo hi=.inr ⟨2,l,l,lo,hi⟩:=if_neg S;rw[Y];have t:=fun(q:World) (E:aa w q)=>Cr (h.U E) ⟨2,l,l,lo,hi⟩ j;refine(Cz (fun q U=>ag (ao F q U) U s (M.a6 ⟨2,l,l,lo,hi⟩)) s l M.n lo hi _ _ _ w K h.pos L J T I O S h.lt t).mono ?_;rintro e z ⟨rfl,q,U,am,av,aw,a1⟩;exact⟨rfl,aw.after h.lt am av a1⟩

theorem tB {F:Nat→Prop}{w:World}{s:Nat}{M:St}(h:ag F w s M)(l:Int)(lo hi:Edge)(a':lo.ok)(a8:hi.ok) :
  Calls Tryz.prog 123 #[.pointer (some ⟨s,0,none⟩),.int .i64 l,.agg #[.int .u8 lo.tag,.int .u32 lo.to],.agg #[.int .u8 hi.tag,.int .u32 hi.to]] w fun r A=>
   r=.returned (.tuple #[.agg #[.int .u8 (dv M (ak M 3 l lo hi (aS M l lo hi))).tag,.int .u32 (dv M (ak M 3 l lo hi (aS M l lo hi))).to],.int .u8 (bS M (ak M 3 l lo hi (aS M l lo hi)))])∧ae F w A∧ag (ao F w A) A s (aM M (ak M 3 l lo hi (aS M l lo hi))):=by
 have N:=h.wf.br
 have O:=fun(j:World) (z:aa w j)=>dz (h.U z)
 have I:=fun(j:World) (z:aa w j)=>cV (h.U z) 3 lo (l+1) a'
 have T:=fun(j:World) (z:aa w j)=>cV (h.U z) 3 hi (l+1) a8
 by_cases a7:l<0∨M.n≤l
 ·have a2:ak M 3 l lo hi (aS M l lo hi)=.inl (⟨0,0⟩,3):=if_pos a7;rw[a2];by_cases be:l<0;·exact(tS s l M.n lo hi w N h.pos O be).mono fun r A q=>⟨q.1,h.a8 q.2⟩
  ·exact(tN s l M.n lo hi w N h.pos O (by omega) (by omega)).mono fun r A q=>⟨q.1,h.a8 q.2⟩
 ·have E:0≤l:=by omega
  have W:l<M.n:=by omega
  by_cases K:M.leads 3 lo (l+1)=false∨M.leads 3 hi (l+1)=false
  ·have a2:ak M 3 l lo hi (aS M l lo hi)=.inl (⟨0,0⟩,1):=(by unfold ak;rw[if_neg a7,if_pos K]);rw[a2];rcases cI (M.leads 3 lo (l+1))with U|U
   ·rw[U]at I;exact(tR s l M.n lo hi w N h.pos O E W I).mono fun r A q=>⟨q.1,h.a8 q.2⟩
   ·have a6:M.leads 3 hi (l+1)=false:=(by rcases K with K|K;rw[K]at U;cases U;exact K);rw[U]at I;rw[a6]at T;exact(tP s l M.n lo hi w N h.pos O E W I T).mono fun r A q=>⟨q.1,h.a8 q.2⟩
  ·have U:M.leads 3 lo (l+1)=true:=(by rcases cI (M.leads 3 lo (l+1))with b|b;exact(K (.inl b)).elim;exact b);have a6:M.leads 3 hi (l+1)=true:=(by rcases cI (M.leads 3 hi (l+1))with b|b;exact(K (.inr b)).elim;exact b);have a2:ak M 3 l lo hi (aS M l lo hi)=aS M l lo hi:=(by unfold ak;rw[if_neg a7,if_neg K]);rw[a2];rw[U]at I;rw[a6]at T;by_cases J:lo=hi
   ·have L:aS M l lo hi=.inl (lo,0):=if_pos J;rw[L];exact(tU s l M.n lo hi w N h.pos O E W I T J).mono fun r A q=>⟨q.1,h.a8 q.2⟩
   have q:(⟨3,l,l,lo,hi⟩:Rec).ok:=iW (by decide) E (by omega) ⟨E,by omega⟩ a' a8;have aw:=fun(j:World) (z:aa w j)=>dU (h.U z) lo.to a'.2.2;cases Y:look M.cs lo.to with
   |none=>
    rw[Y]at aw;have L:aS M l lo hi=.inr ⟨3,l,l,lo,hi⟩:=(by unfold aS;rw[if_neg J,Y]);rw[L];have X:=fun(j:World) (z:aa w j)=>jm (h.U z) ⟨3,l,l,lo,hi⟩ q;refine(tT (fun j t=>ag (ao F j t) t s (M.a6 ⟨3,l,l,lo,hi⟩)) s l M.n lo hi Rec.zero _ _ _ w N h.pos O E W I T J aw h.lt X).mono ?_;rintro e A ⟨rfl,j,t,Z,ab,ad,am⟩;exact⟨rfl,ad.after h.lt Z ab am⟩
   |some r=>
    have a5:=h.b1 Y;rw[Y]at aw;by_cases S:r.I=l+1
    ·by_cases av:r.hi=hi
     ·have L:aS M l lo hi=.inr ⟨3,l,r.J,r.lo,hi⟩:=(by unfold aS;rw[if_neg J,Y];show(if r.I=l+1 then _ else _)=_;rw[if_pos S,if_pos av]);rw[L];clear q;have q:(⟨3,l,r.J,r.lo,hi⟩:Rec).ok:=iW (by decide) E (by omega) a5.J a5.lo a8;obtain⟨bb,rt,a3,a4,a1⟩:=r;dsimp only at S av q ⊢;subst av;subst S;have X:=fun(j:World) (z:aa w j)=>jm (h.U z) ⟨3,l,a3,a4,a1⟩ q;refine(tO (fun j t=>ag (ao F j t) t s (M.a6 ⟨3,l,a3,a4,a1⟩)) s l M.n lo a1 ⟨bb,l+1,a3,a4,a1⟩ _ _ _ w N h.pos O E W I T J aw h.lt X).mono ?_;rintro e A ⟨rfl,j,t,Z,ab,ad,am⟩;exact⟨rfl,ad.after h.lt Z ab am⟩
     ·have L:aS M l lo hi=.inr ⟨3,l,l,lo,hi⟩:=(by unfold aS;rw[if_neg J,Y];show(if r.I=l+1 then _ else _)=_;rw[if_pos S,if_neg av]);rw[L];obtain⟨bb,rt,a3,a4,a1⟩:=r;dsimp only at S av;subst S;have X:=fun(j:World) (z:aa w j)=>jm (h.U z) ⟨3,l,l,lo,hi⟩ q;refine(tQ (fun j t=>ag (ao F j t) t s (M.a6 ⟨3,l,l,lo,hi⟩)) s l M.n lo hi ⟨bb,l+1,a3,a4,a1⟩ _ _ _ w N h.pos O E W I T J av aw h.lt X).mono ?_;rintro e A ⟨rfl,j,t,Z,ab,ad,am⟩;exact⟨rfl,ad.after h.lt Z ab am⟩
    ·have L:aS M l lo hi=.inr ⟨3,l,l,lo,hi⟩:=(by unfold aS;rw[if_neg J,Y];show(if r.I=l+1 then _ else _)=_;rw[if_neg S]);rw[L];have X:=fun(j:World) (z:aa w j)=>jm (h.U z) ⟨3,l,l,lo,hi⟩ q;refine(tV (fun j t=>ag (ao F j t) t s (M.a6 ⟨3,l,l,lo,hi⟩)) s l M.n lo hi r _ _ _ w N h.pos O E W I T J S a5.I.1 a5.I.2 aw h.lt X).mono ?_;rintro e A ⟨rfl,j,t,Z,ab,ad,am⟩;exact⟨rfl,ad.after h.lt Z ab am⟩

theorem ui {F:Nat→Prop}{w:World}{s:Nat}{M:St}(h:ag F w s M)(l:Int)(lo hi:Edge)(a5:lo.ok)(a':hi.ok) :
  Calls Tryz.prog 124 #[.pointer (some ⟨s,0,none⟩),.int .i64 l,.agg #[.int .u8 lo.tag,.int .u32 lo.to],.agg #[.int .u8 hi.tag,.int .u32 hi.to]] w fun r A=>
   r=.returned (.tuple #[.agg #[.int .u8 (dv M (ak M 4 l lo hi (aV M l lo hi))).tag,.int .u32 (dv M (ak M 4 l lo hi (aV M l lo hi))).to],.int .u8 (bS M (ak M 4 l lo hi (aV M l lo hi)))])∧ae F w A∧ag (ao F w A) A s (aM M (ak M 4 l lo hi (aV M l lo hi))):=by
 have N:=h.wf.br
 have O:=fun(j:World) (z:aa w j)=>dz (h.U z)
 have J:=fun(j:World) (z:aa w j)=>cV (h.U z) 4 lo (l+1) a5
 have S:=fun(j:World) (z:aa w j)=>cV (h.U z) 4 hi (l+1) a'
 by_cases a4:l<0∨M.n≤l
 ·have a2:ak M 4 l lo hi (aV M l lo hi)=.inl (⟨0,0⟩,3):=if_pos a4;rw[a2];by_cases bb:l<0;·exact(yI s l M.n lo hi w N h.pos O bb).mono fun r A q=>⟨q.1,h.a8 q.2⟩
  ·exact(yD s l M.n lo hi w N h.pos O (by omega) (by omega)).mono fun r A q=>⟨q.1,h.a8 q.2⟩
 ·have I:0≤l:=by omega
  have W:l<M.n:=by omega
  by_cases K:M.leads 4 lo (l+1)=false∨M.leads 4 hi (l+1)=false
  ·have a2:ak M 4 l lo hi (aV M l lo hi)=.inl (⟨0,0⟩,1):=(by unfold ak;rw[if_neg a4,if_pos K]);rw[a2];rcases cI (M.leads 4 lo (l+1))with T|T
   ·rw[T]at J;exact(yG s l M.n lo hi w N h.pos O I W J).mono fun r A q=>⟨q.1,h.a8 q.2⟩
   ·have a3:M.leads 4 hi (l+1)=false:=(by rcases K with K|K;rw[K]at T;cases T;exact K);rw[T]at J;rw[a3]at S;exact(yF s l M.n lo hi w N h.pos O I W J S).mono fun r A q=>⟨q.1,h.a8 q.2⟩
  ·have T:M.leads 4 lo (l+1)=true:=(by rcases cI (M.leads 4 lo (l+1))with b|b;exact(K (.inl b)).elim;exact b);have a3:M.leads 4 hi (l+1)=true:=(by rcases cI (M.leads 4 hi (l+1))with b|b;exact(K (.inr b)).elim;exact b);have a2:ak M 4 l lo hi (aV M l lo hi)=aV M l lo hi:=(by unfold ak;rw[if_neg a4,if_neg K]);rw[a2];rw[T]at J;rw[a3]at S;by_cases E:hi.to=0
   ·have L:aV M l lo hi=.inl (lo,0):=if_pos E;rw[L];obtain⟨bg,K⟩:=hi;dsimp only at E;subst E;exact(yL s l M.n lo bg w N h.pos O I W J S).mono fun r A q=>⟨q.1,h.a8 q.2⟩
   have q:(⟨4,l,l,lo,hi⟩:Rec).ok:=iW (by decide) I (by omega) ⟨I,by omega⟩ a5 a';have aw:=fun(j:World) (z:aa w j)=>dU (h.U z) lo.to a5.2.2;cases Y:look M.cs lo.to with
   |none=>
    rw[Y]at aw;have L:aV M l lo hi=.inr ⟨4,l,l,lo,hi⟩:=(by unfold aV;rw[if_neg E,Y]);rw[L];have X:=fun(j:World) (z:aa w j)=>jo (h.U z) ⟨4,l,l,lo,hi⟩ q;refine(yJ (fun j t=>ag (ao F j t) t s (M.a6 ⟨4,l,l,lo,hi⟩)) s l M.n lo hi Rec.zero _ _ _ w N h.pos O I W J S E aw h.lt X).mono ?_;rintro e A ⟨rfl,j,t,ab,ad,am,av⟩;exact⟨rfl,am.after h.lt ab ad av⟩
   |some r=>
    have Z:=h.b1 Y;rw[Y]at aw;by_cases U:lo=hi
    ·by_cases a1:r.I=l+1
     ·have L:aV M l lo hi=.inr ⟨4,l,r.J,r.lo,r.hi⟩:=(by unfold aV;rw[if_neg E,Y];show(if lo=hi then _ else _)=_;rw[if_pos U,if_pos a1]);rw[L];clear q;have q:(⟨4,l,r.J,r.lo,r.hi⟩:Rec).ok:=iW (by decide) I (by omega) Z.J Z.lo Z.hi;obtain⟨be,rt,a6,a8,a7⟩:=r;dsimp only at a1 U q ⊢;subst U;subst a1;have X:=fun(j:World) (z:aa w j)=>jo (h.U z) ⟨4,l,a6,a8,a7⟩ q;refine(yE (fun j t=>ag (ao F j t) t s (M.a6 ⟨4,l,a6,a8,a7⟩)) s l M.n lo ⟨be,l+1,a6,a8,a7⟩ _ _ _ w N h.pos O I W J S E aw h.lt X).mono ?_;rintro e A ⟨rfl,j,t,ab,ad,am,av⟩;exact⟨rfl,am.after h.lt ab ad av⟩
     ·have L:aV M l lo hi=.inr ⟨4,l,l,lo,hi⟩:=(by unfold aV;rw[if_neg E,Y];show(if lo=hi then _ else _)=_;rw[if_pos U,if_neg a1]);rw[L];subst U;have X:=fun(j:World) (z:aa w j)=>jo (h.U z) ⟨4,l,l,lo,lo⟩ q;refine(yK (fun j t=>ag (ao F j t) t s (M.a6 ⟨4,l,l,lo,lo⟩)) s l M.n lo r _ _ _ w N h.pos O I W J S E a1 Z.I.1 Z.I.2 aw h.lt X).mono ?_;rintro e A ⟨rfl,j,t,ab,ad,am,av⟩;exact⟨rfl,am.after h.lt ab ad av⟩
    ·have L:aV M l lo hi=.inr ⟨4,l,l,lo,hi⟩:=(by unfold aV;rw[if_neg E,Y];show(if lo=hi then _ else _)=_;rw[if_neg U]);rw[L];have X:=fun(j:World) (z:aa w j)=>jo (h.U z) ⟨4,l,l,lo,hi⟩ q;refine(yH (fun j t=>ag (ao F j t) t s (M.a6 ⟨4,l,l,lo,hi⟩)) s l M.n lo hi r _ _ _ w N h.pos O I W J S E U Z.I.1 Z.I.2 aw h.lt X).mono ?_;rintro e A ⟨rfl,j,t,ab,ad,am,av⟩;exact⟨rfl,am.after h.lt ab ad av⟩

def dw (M:St)(f l:Int)(lo hi:Edge):(Edge×Int) ⊕ Rec:=
 if f=1 then ak M 1 l lo hi (bT M l lo hi)else if f=2 then ak M 2 l lo hi (bX M l lo hi)else if f=3 then ak M 3 l lo hi (aS M l lo hi)
 else if f=4 then ak M 4 l lo hi (aV M l lo hi)else if f=5 then bl M l lo hi else .inl (⟨0,0⟩,4)

def kE (M:St)(f:Int)(a:(Edge×Int) ⊕ Rec):Edge:=if f=5 then iI M a else dv M a

theorem vX {F:Nat→Prop}(R:World→World→Prop)(I:Nat)(l a b z:Int)(lo hi:Edge)(w:World)(X:I<w.heap.size)(K:∀k,F k→k<w.heap.size)
  (J:∀j,aa w j→Calls Tryz.prog 121 #[.pointer (some ⟨I,0,none⟩),.int .i64 l,.agg #[.int .u8 lo.tag,.int .u32 lo.to],.agg #[.int .u8 hi.tag,.int .u32 hi.to]] j fun e s=>e=.returned (.tuple #[.agg #[.int .u8 a,.int .u32 b],.int .u8 z])∧ae F j s∧R j s) :
  Calls Tryz.prog 71 #[.pointer (some ⟨I,0,none⟩),.int .u8 1,.int .i64 l,.agg #[.int .u8 lo.tag,.int .u32 lo.to],.agg #[.int .u8 hi.tag,.int .u32 hi.to]] w fun e s=>e=.returned (.tuple #[.agg #[.int .u8 a,.int .u32 b],.int .u8 z]) ∧
   ∃j t,aa w j∧ae F j t∧R j t∧ae (fun k=>w.heap.size≤k∧k<j.heap.size) t s:=by
 have N:=Lib.hid J
 have j:∀k,w.heap.size≤k→¬F k:=fun k A h=>by have:=K k h;omega
 have E:=j (w.heap.size+2) (by omega)
 clear J K j
 go_enter Tryz.func71,Tryz.ntmps71
 go_wp2_with (go_at_call 121;refine(N.out _ (by(exact kp))).mono ?_;rintro e L ⟨rfl,q,O⟩;have S:=q.size;(try simp only[World.size_alloc,World.size_setCell,World.a3]at S);have U:=q.cell (a:=⟨w.heap.size+2,0,none⟩) E (v:=.int .u8 0) (by simp[go_sem]);have W:=q.cell (a:=⟨w.heap.size+2,1,none⟩) E (v:=.int .u32 0) (by simp[go_sem]);have j:=fun o:Nat=>q.frozen (a:=⟨w.heap.size+2,o,none⟩) (by simp[go_sem]) E (by simp[go_sem]);have T:w.heap.size+2<L.heap.size:=(by omega))
 all_goals refine bodyPost_ret (v:=.tuple #[.agg #[.int .u8 a,.int .u32 b],.int .u8 z]) (by simp[results,Tryz.results71,go_sem,T,U,W]) rfl ⟨rfl,_,L,by(exact kp),q,O,?_⟩
 all_goals(try simp only[World.size_alloc,World.size_setCell,World.a3])
 all_goals(repeat (first|with_reducible exact ae.refl _ _|exact ae.mono j (fun k _ A=>⟨A.1,by(try simp only[World.size_alloc,World.size_setCell,World.a3]);have:=A.2;omega⟩)|refine ae.setCell ?_ (Or.inl (by dsimp only;omega)) _|refine ae.setCell ?_ (Or.inr (by dsimp only;omega)) _|with_reducible refine ae.drewN ?_ _|with_reducible refine ae.drew ?_|with_reducible refine ae.alloc ?_ _))

theorem we {F:Nat→Prop}(R:World→World→Prop)(I:Nat)(l a b z:Int)(lo hi:Edge)(w:World)(X:I<w.heap.size)(K:∀k,F k→k<w.heap.size)
  (J:∀j,aa w j→Calls Tryz.prog 122 #[.pointer (some ⟨I,0,none⟩),.int .i64 l,.agg #[.int .u8 lo.tag,.int .u32 lo.to],.agg #[.int .u8 hi.tag,.int .u32 hi.to]] j fun e s=>e=.returned (.tuple #[.agg #[.int .u8 a,.int .u32 b],.int .u8 z])∧ae F j s∧R j s) :
  Calls Tryz.prog 71 #[.pointer (some ⟨I,0,none⟩),.int .u8 2,.int .i64 l,.agg #[.int .u8 lo.tag,.int .u32 lo.to],.agg #[.int .u8 hi.tag,.int .u32 hi.to]] w fun e s=>e=.returned (.tuple #[.agg #[.int .u8 a,.int .u32 b],.int .u8 z]) ∧
   ∃j t,aa w j∧ae F j t∧R j t∧ae (fun k=>w.heap.size≤k∧k<j.heap.size) t s:=by
 have N:=Lib.hid J
 have j:∀k,w.heap.size≤k→¬F k:=fun k A h=>by have:=K k h;omega
 have E:=j (w.heap.size+2) (by omega)
 clear J K j
 go_enter Tryz.func71,Tryz.ntmps71
 go_wp2_with (go_at_call 122;refine(N.out _ (by(exact kp))).mono ?_;rintro e L ⟨rfl,q,O⟩;have S:=q.size;(try simp only[World.size_alloc,World.size_setCell,World.a3]at S);have U:=q.cell (a:=⟨w.heap.size+2,0,none⟩) E (v:=.int .u8 0) (by simp[go_sem]);have W:=q.cell (a:=⟨w.heap.size+2,1,none⟩) E (v:=.int .u32 0) (by simp[go_sem]);have j:=fun o:Nat=>q.frozen (a:=⟨w.heap.size+2,o,none⟩) (by simp[go_sem]) E (by simp[go_sem]);have T:w.heap.size+2<L.heap.size:=(by omega))
 all_goals refine bodyPost_ret (v:=.tuple #[.agg #[.int .u8 a,.int .u32 b],.int .u8 z]) (by simp[results,Tryz.results71,go_sem,T,U,W]) rfl ⟨rfl,_,L,by(exact kp),q,O,?_⟩
 all_goals(try simp only[World.size_alloc,World.size_setCell,World.a3])
 all_goals(repeat (first|with_reducible exact ae.refl _ _|exact ae.mono j (fun k _ A=>⟨A.1,by(try simp only[World.size_alloc,World.size_setCell,World.a3]);have:=A.2;omega⟩)|refine ae.setCell ?_ (Or.inl (by dsimp only;omega)) _|refine ae.setCell ?_ (Or.inr (by dsimp only;omega)) _|with_reducible refine ae.drewN ?_ _|with_reducible refine ae.drew ?_|with_reducible refine ae.alloc ?_ _))

theorem vY {F:Nat→Prop}(R:World→World→Prop)(I:Nat)(l a b z:Int)(lo hi:Edge)(w:World)(X:I<w.heap.size)(K:∀k,F k→k<w.heap.size)
  (J:∀j,aa w j→Calls Tryz.prog 123 #[.pointer (some ⟨I,0,none⟩),.int .i64 l,.agg #[.int .u8 lo.tag,.int .u32 lo.to],.agg #[.int .u8 hi.tag,.int .u32 hi.to]] j fun e s=>e=.returned (.tuple #[.agg #[.int .u8 a,.int .u32 b],.int .u8 z])∧ae F j s∧R j s) :
  Calls Tryz.prog 71 #[.pointer (some ⟨I,0,none⟩),.int .u8 3,.int .i64 l,.agg #[.int .u8 lo.tag,.int .u32 lo.to],.agg #[.int .u8 hi.tag,.int .u32 hi.to]] w fun e s=>e=.returned (.tuple #[.agg #[.int .u8 a,.int .u32 b],.int .u8 z]) ∧
   ∃j t,aa w j∧ae F j t∧R j t∧ae (fun k=>w.heap.size≤k∧k<j.heap.size) t s:=by
 have N:=Lib.hid J
 have j:∀k,w.heap.size≤k→¬F k:=fun k A h=>by have:=K k h;omega
 have E:=j (w.heap.size+2) (by omega)
 clear J K j
 go_enter Tryz.func71,Tryz.ntmps71
 go_wp2_with (go_at_call 123;refine(N.out _ (by(exact kp))).mono ?_;rintro e L ⟨rfl,q,O⟩;have S:=q.size;(try simp only[World.size_alloc,World.size_setCell,World.a3]at S);have U:=q.cell (a:=⟨w.heap.size+2,0,none⟩) E (v:=.int .u8 0) (by simp[go_sem]);have W:=q.cell (a:=⟨w.heap.size+2,1,none⟩) E (v:=.int .u32 0) (by simp[go_sem]);have j:=fun o:Nat=>q.frozen (a:=⟨w.heap.size+2,o,none⟩) (by simp[go_sem]) E (by simp[go_sem]);have T:w.heap.size+2<L.heap.size:=(by omega))
 all_goals refine bodyPost_ret (v:=.tuple #[.agg #[.int .u8 a,.int .u32 b],.int .u8 z]) (by simp[results,Tryz.results71,go_sem,T,U,W]) rfl ⟨rfl,_,L,by(exact kp),q,O,?_⟩
 all_goals(try simp only[World.size_alloc,World.size_setCell,World.a3])
 all_goals(repeat (first|with_reducible exact ae.refl _ _|exact ae.mono j (fun k _ A=>⟨A.1,by(try simp only[World.size_alloc,World.size_setCell,World.a3]);have:=A.2;omega⟩)|refine ae.setCell ?_ (Or.inl (by dsimp only;omega)) _|refine ae.setCell ?_ (Or.inr (by dsimp only;omega)) _|with_reducible refine ae.drewN ?_ _|with_reducible refine ae.drew ?_|with_reducible refine ae.alloc ?_ _))

theorem v7 {F:Nat→Prop}(R:World→World→Prop)(I:Nat)(l a b z:Int)(lo hi:Edge)(w:World)(X:I<w.heap.size)(K:∀k,F k→k<w.heap.size)
  (J:∀j,aa w j→Calls Tryz.prog 124 #[.pointer (some ⟨I,0,none⟩),.int .i64 l,.agg #[.int .u8 lo.tag,.int .u32 lo.to],.agg #[.int .u8 hi.tag,.int .u32 hi.to]] j fun e s=>e=.returned (.tuple #[.agg #[.int .u8 a,.int .u32 b],.int .u8 z])∧ae F j s∧R j s) :
  Calls Tryz.prog 71 #[.pointer (some ⟨I,0,none⟩),.int .u8 4,.int .i64 l,.agg #[.int .u8 lo.tag,.int .u32 lo.to],.agg #[.int .u8 hi.tag,.int .u32 hi.to]] w fun e s=>e=.returned (.tuple #[.agg #[.int .u8 a,.int .u32 b],.int .u8 z]) ∧
   ∃j t,aa w j∧ae F j t∧R j t∧ae (fun k=>w.heap.size≤k∧k<j.heap.size) t s:=by
 have N:=Lib.hid J
 have j:∀k,w.heap.size≤k→¬F k:=fun k A h=>by have:=K k h;omega
 have E:=j (w.heap.size+2) (by omega)
 clear J K j
 go_enter Tryz.func71,Tryz.ntmps71
 go_wp2_with (go_at_call 124;refine(N.out _ (by(exact kp))).mono ?_;rintro e L ⟨rfl,q,O⟩;have S:=q.size;(try simp only[World.size_alloc,World.size_setCell,World.a3]at S);have U:=q.cell (a:=⟨w.heap.size+2,0,none⟩) E (v:=.int .u8 0) (by simp[go_sem]);have W:=q.cell (a:=⟨w.heap.size+2,1,none⟩) E (v:=.int .u32 0) (by simp[go_sem]);have j:=fun o:Nat=>q.frozen (a:=⟨w.heap.size+2,o,none⟩) (by simp[go_sem]) E (by simp[go_sem]);have T:w.heap.size+2<L.heap.size:=(by omega))
 all_goals refine bodyPost_ret (v:=.tuple #[.agg #[.int .u8 a,.int .u32 b],.int .u8 z]) (by simp[results,Tryz.results71,go_sem,T,U,W]) rfl ⟨rfl,_,L,by(exact kp),q,O,?_⟩
 all_goals(try simp only[World.size_alloc,World.size_setCell,World.a3])
 all_goals(repeat (first|with_reducible exact ae.refl _ _|exact ae.mono j (fun k _ A=>⟨A.1,by(try simp only[World.size_alloc,World.size_setCell,World.a3]);have:=A.2;omega⟩)|refine ae.setCell ?_ (Or.inl (by dsimp only;omega)) _|refine ae.setCell ?_ (Or.inr (by dsimp only;omega)) _|with_reducible refine ae.drewN ?_ _|with_reducible refine ae.drew ?_|with_reducible refine ae.alloc ?_ _))

theorem v9 {F:Nat→Prop}(R:World→World→Prop)(I:Nat)(l a b z:Int)(lo hi:Edge)(w:World)(X:I<w.heap.size)(K:∀k,F k→k<w.heap.size)
  (J:∀j,aa w j→Calls Tryz.prog 125 #[.pointer (some ⟨I,0,none⟩),.int .i64 l,.agg #[.int .u8 lo.tag,.int .u32 lo.to],.agg #[.int .u8 hi.tag,.int .u32 hi.to]] j fun e s=>e=.returned (.tuple #[.agg #[.int .u8 a,.int .u32 b],.int .u8 z])∧ae F j s∧R j s) :
  Calls Tryz.prog 71 #[.pointer (some ⟨I,0,none⟩),.int .u8 5,.int .i64 l,.agg #[.int .u8 lo.tag,.int .u32 lo.to],.agg #[.int .u8 hi.tag,.int .u32 hi.to]] w fun e s=>e=.returned (.tuple #[.agg #[.int .u8 a,.int .u32 b],.int .u8 z]) ∧
   ∃j t,aa w j∧ae F j t∧R j t∧ae (fun k=>w.heap.size≤k∧k<j.heap.size) t s:=by
 have N:=Lib.hid J
 have j:∀k,w.heap.size≤k→¬F k:=fun k A h=>by have:=K k h;omega
 have E:=j (w.heap.size+2) (by omega)
 clear J K j
 go_enter Tryz.func71,Tryz.ntmps71
 go_wp2_with (go_at_call 125;refine(N.out _ (by(exact kp))).mono ?_;rintro e L ⟨rfl,q,O⟩;have S:=q.size;(try simp only[World.size_alloc,World.size_setCell,World.a3]at S);have U:=q.cell (a:=⟨w.heap.size+2,0,none⟩) E (v:=.int .u8 0) (by simp[go_sem]);have W:=q.cell (a:=⟨w.heap.size+2,1,none⟩) E (v:=.int .u32 0) (by simp[go_sem]);have j:=fun o:Nat=>q.frozen (a:=⟨w.heap.size+2,o,none⟩) (by simp[go_sem]) E (by simp[go_sem]);have T:w.heap.size+2<L.heap.size:=(by omega))
 all_goals refine bodyPost_ret (v:=.tuple #[.agg #[.int .u8 a,.int .u32 b],.int .u8 z]) (by simp[results,Tryz.results71,go_sem,T,U,W]) rfl ⟨rfl,_,L,by(exact kp),q,O,?_⟩
 all_goals(try simp only[World.size_alloc,World.size_setCell,World.a3])
 all_goals(repeat (first|with_reducible exact ae.refl _ _|exact ae.mono j (fun k _ A=>⟨A.1,by(try simp only[World.size_alloc,World.size_setCell,World.a3]);have:=A.2;omega⟩)|refine ae.setCell ?_ (Or.inl (by dsimp only;omega)) _|refine ae.setCell ?_ (Or.inr (by dsimp only;omega)) _|with_reducible refine ae.drewN ?_ _|with_reducible refine ae.drew ?_|with_reducible refine ae.alloc ?_ _))

theorem vZ (A:Nat)(f l:Int)(lo hi:Edge)(w:World)(I:A<w.heap.size)(j:f≠1)(q:f≠2)(s:f≠3)(t:f≠4)(z:f≠5) :
  Calls Tryz.prog 71 #[.pointer (some ⟨A,0,none⟩),.int .u8 f,.int .i64 l,.agg #[.int .u8 lo.tag,.int .u32 lo.to],.agg #[.int .u8 hi.tag,.int .u32 hi.to]] w fun e E=>e=.returned (.tuple #[.agg #[.int .u8 0,.int .u32 0],.int .u8 4])∧aa w E:=by
 have A:(f==1)=false:=by simp[j]
 have A:(f==2)=false:=by simp[q]
 have A:(f==3)=false:=by simp[s]
 have A:(f==4)=false:=by simp[t]
 have A:(f==5)=false:=by simp[z]
 clear j q s t z
 go_enter Tryz.func71,Tryz.ntmps71
 go_wp2
 all_goals refine bodyPost_ret (v:=.tuple #[.agg #[.int .u8 0,.int .u32 0],.int .u8 4]) (by simp[results,Tryz.results71,go_sem]) rfl ⟨rfl,by(exact kp)⟩

theorem jX {F:Nat→Prop}{w:World}{t:Nat}{M:St}(h:ag F w t M)(f l:Int)(lo hi:Edge)(O:lo.ok)(N:hi.ok) :
  Calls Tryz.prog 71 #[.pointer (some ⟨t,0,none⟩),.int .u8 f,.int .i64 l,.agg #[.int .u8 lo.tag,.int .u32 lo.to],.agg #[.int .u8 hi.tag,.int .u32 hi.to]] w fun r L=>
   r=.returned (.tuple #[.agg #[.int .u8 (kE M f (dw M f l lo hi)).tag,.int .u32 (kE M f (dw M f l lo hi)).to],.int .u8 (bS M (dw M f l lo hi))])∧ae F w L∧ag (ao F w L) L t (aM M (dw M f l lo hi)):=by
 by_cases S:f=1
 ·subst S;have s:dw M 1 l lo hi=ak M 1 l lo hi (bT M l lo hi):=rfl;have z:kE M 1 (dw M 1 l lo hi)=dv M (ak M 1 l lo hi (bT M l lo hi)):=by rw[s];rfl
  rw[z,s];refine(vX (fun j q=>ag (ao F j q) q t (aM M (ak M 1 l lo hi (bT M l lo hi)))) t l _ _ _ lo hi w h.pos h.lt (fun j A=>sw (h.U A) l lo hi O N)).mono ?_;rintro e L ⟨rfl,j,q,E,I,J,K⟩;exact⟨rfl,J.after h.lt E I K⟩
 by_cases T:f=2
 ·subst T;have s:dw M 2 l lo hi=ak M 2 l lo hi (bX M l lo hi):=rfl;have z:kE M 2 (dw M 2 l lo hi)=dv M (ak M 2 l lo hi (bX M l lo hi)):=by rw[s];rfl
  rw[z,s];refine(we (fun j q=>ag (ao F j q) q t (aM M (ak M 2 l lo hi (bX M l lo hi)))) t l _ _ _ lo hi w h.pos h.lt (fun j A=>Cs (h.U A) l lo hi O N)).mono ?_;rintro e L ⟨rfl,j,q,E,I,J,K⟩;exact⟨rfl,J.after h.lt E I K⟩
 by_cases U:f=3
 ·subst U;have s:dw M 3 l lo hi=ak M 3 l lo hi (aS M l lo hi):=rfl;have z:kE M 3 (dw M 3 l lo hi)=dv M (ak M 3 l lo hi (aS M l lo hi)):=by rw[s];rfl
  rw[z,s];refine(vY (fun j q=>ag (ao F j q) q t (aM M (ak M 3 l lo hi (aS M l lo hi)))) t l _ _ _ lo hi w h.pos h.lt (fun j A=>tB (h.U A) l lo hi O N)).mono ?_;rintro e L ⟨rfl,j,q,E,I,J,K⟩;exact⟨rfl,J.after h.lt E I K⟩
 by_cases W:f=4
 ·subst W;have s:dw M 4 l lo hi=ak M 4 l lo hi (aV M l lo hi):=rfl;have z:kE M 4 (dw M 4 l lo hi)=dv M (ak M 4 l lo hi (aV M l lo hi)):=by rw[s];rfl
  rw[z,s];refine(v7 (fun j q=>ag (ao F j q) q t (aM M (ak M 4 l lo hi (aV M l lo hi)))) t l _ _ _ lo hi w h.pos h.lt (fun j A=>ui (h.U A) l lo hi O N)).mono ?_;rintro e L ⟨rfl,j,q,E,I,J,K⟩;exact⟨rfl,J.after h.lt E I K⟩
 by_cases X:f=5
 ·subst X;have s:dw M 5 l lo hi=bl M l lo hi:=rfl;have z:kE M 5 (dw M 5 l lo hi)=iI M (bl M l lo hi):=by rw[s];rfl
  rw[z,s];refine(v9 (fun j q=>ag (ao F j q) q t (aM M (bl M l lo hi))) t l _ _ _ lo hi w h.pos h.lt (fun j A=>AO (h.U A) l lo hi O N)).mono ?_;rintro e L ⟨rfl,j,q,E,I,J,K⟩;exact⟨rfl,J.after h.lt E I K⟩
 have s:dw M f l lo hi=.inl (⟨0,0⟩,4):=by unfold dw;rw[if_neg S,if_neg T,if_neg U,if_neg W,if_neg X]
 have z:kE M f (dw M f l lo hi)=⟨0,0⟩:=by rw[s];unfold kE;split<;>rfl
 rw[z,s]
 exact(vZ t f l lo hi w h.pos S T U W X).mono fun r L j=>⟨j.1,h.a8 j.2⟩

def jG (f n:Int):Edge:=if f=5 then⟨n,1⟩else⟨0,1⟩

theorem xQ (f n:Int)(w:World)(z:bD f=true)(t:0≤n)(s:n≤16):Calls Tryz.prog 163 #[.int .u8 f,.int .i64 n] w fun e j=>e=.returned (.agg #[.int .u8 (jG f n).tag,.int .u32 (jG f n).to])∧aa w j:=by
 have z:fK n=true:=by simp[fK,t,s]
 by_cases q:f=5
 ·subst q;go_enter Tryz.func163,Tryz.ntmps163
  go_wp2_with (first|(go_at_call 100;refine(ij _ _).mono ?_;rintro e j ⟨rfl,rfl⟩)|(go_at_call 201;refine(kF _ _).mono ?_;rintro e j ⟨rfl,rfl⟩)|fail)
  all_goals refine bodyPost_ret (v:=.agg #[.int .u8 n,.int .u32 1]) (by simp[results,Tryz.results163,go_sem]) rfl ⟨rfl,by(exact kp)⟩
 ·have s:(f==5)=false:=by simp[q]
  have e:jG f n=⟨0,1⟩:=if_neg q;rw[e];go_enter Tryz.func163,Tryz.ntmps163
  go_wp2_with (first|(go_at_call 100;refine(ij _ _).mono ?_;rintro e j ⟨rfl,rfl⟩)|(go_at_call 201;refine(kF _ _).mono ?_;rintro e j ⟨rfl,rfl⟩)|fail)
  all_goals refine bodyPost_ret (v:=.agg #[.int .u8 0,.int .u32 1]) (by simp[results,Tryz.results163,go_sem]) rfl ⟨rfl,by(exact kp)⟩

def ir (ps:List Int)(x:Int):Int:=if x∈ps then(ps.idxOf x:Int)else -1

def cJ (ps:List Int):Nat→Nat
 |0=>0
 |k+1=>if ps.getD (k+1) 0<ps.getD k 0 then cJ ps k else k+1

def dY (ps:List Int)(i:Nat):Nat→Int
 |0=>-1
 |j+1=>if ps.getD i 0<ps.getD (i+1+j) 0&&(decide (dY ps i j<0)||decide (ps.getD (i+1+j) 0<ps.getD (dY ps i j).toNat 0))then((i+1+j:Nat):Int)else dY ps i j

def ei (out:List Int):Nat→List Int
 |0=>out
 |x+1=>if(x:Int)∈ei out x then ei out x else ei out x++[(x:Int)]

theorem xw (out:List Int)(n:Nat):(ei out n).length≤out.length+n:=by
 induction n with
 |zero=>exact Nat.le_refl _
 |succ n j=>
  unfold ei;split;·omega
  ·rw[List.length_append];simp;omega

def gl (ps:List Int):Int:=dY ps (cJ ps (ps.length-1)-1) (ps.length-cJ ps (ps.length-1))

def fw (ps:List Int):List Int:=ei (ps.take (cJ ps (ps.length-1)-1)++[ps.getD (gl ps).toNat 0]) ps.length

def my (n r:Nat):Bool:=
 if r+1<aZ n then decide (0<cJ (bo n r) (n-1))&&decide (0≤gl (bo n r))&&(fw (bo n r)==bo n (r+1))
 else cJ (bo n r) (n-1)==0

theorem xz:((List.range 5).all fun n=>(List.range (aZ n)).all fun r=>my n r)=true:=by kernel_rfl

theorem xB {n r:Nat}(j:n≤4)(q:r<aZ n):my n r=true:=by
 have h:=xz;rw[List.all_eq_true]at h;have j:=h n (List.mem_range.2 (by omega));rw[List.all_eq_true]at j;exact j r (List.mem_range.2 q)

theorem sG (ps:List Int)(i:Nat)(j:Nat):dY ps i j=-1∨∃k,dY ps i j=((k:Nat):Int)∧k<i+1+j:=by
 induction j with
 |zero=>exact .inl rfl
 |succ j q=>
  unfold dY;split;·exact .inr ⟨_,rfl,by omega⟩
  ·rcases q with h|⟨k,j,q⟩;·exact .inl h
   ·exact .inr ⟨k,j,by omega⟩

end Go.Proofs.YtafkamlhimkbmaaGreat
