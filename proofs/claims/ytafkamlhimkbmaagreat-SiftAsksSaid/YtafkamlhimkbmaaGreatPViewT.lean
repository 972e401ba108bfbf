/-
  What View does, over the state (printed by wip/mk_vstore.py).
-/
import Derived.Test.YtafkamlhimkbmaaGreatPOrderC
import Derived.Test.YtafkamlhimkbmaaGreatPRLaw
import Derived.Test.YtafkamlhimkbmaaGreatPTMakeA
import Derived.RangeFuncBox
import Derived.Shelf.Abstract
import Derived.Shelf.RegionOpen
import Derived.OwnWalkIn
import Derived.TacticsInMore
import Derived.LoopNIn
import Derived.LoopIn
namespace Go.Proofs.YtafkamlhimkbmaaGreat
set_option maxRecDepth 1000000
set_option maxHeartbeats 8000000
set_option linter.unusedSimpArgs false
set_option linter.unusedVariables false
open Go.RowKit
theorem dY {M:St}{f:Int}{e:Edge}{l:Int}(h:M.leads f e l=true){r:Rec}(j:look M.cs e.to=some r):r.al=f∧l≤r.I∧e.tag≤r.I:=by
 have q:=(ck j).1;unfold St.leads at h;rw[j,aY (show¬e.to<2 by omega)]at h;simp at h;exact⟨h.2.1.1,h.2.1.2,h.2.2⟩
def aN (f l:Int)(e:Edge):Edge×Edge×Int:=
 if f=1∨f=3 then(e,e,0)else if f=5 then(⟨l+1,e.to⟩,⟨0,0⟩,0)else(e,⟨0,0⟩,0)
def aj (M:St)(f:Int)(e:Edge)(l:Int):(Edge×Edge×Int) ⊕ Rec:=
 if l<0∨M.n≤l then .inl (⟨0,0⟩,⟨0,0⟩,3)
 else if M.leads f e l=false then .inl (⟨0,0⟩,⟨0,0⟩,1)
 else if f=5∧(e.to=0∨l<e.tag)then .inl (e,e,0)
 else match look M.cs e.to with
  |none=>.inl (aN f l e)
  |some r=>if l<r.I then .inl (aN f l e)else if(f=3∨f=4)∧r.J≠r.I then .inr ⟨r.al,r.I+1,r.J,r.lo,r.hi⟩else .inl (r.lo,r.hi,0)
def cz (M:St):(Edge×Edge×Int) ⊕ Rec→Edge | .inl x=>x.1 | .inr r=>bz M 0 r
def bL (M:St)(f:Int):(Edge×Edge×Int) ⊕ Rec→Edge | .inl x=>x.2.1 | .inr r=>if M.a' r=0 then(if f=4 then bz M 0 r else r.hi)else⟨0,0⟩
def cK (M:St):(Edge×Edge×Int) ⊕ Rec→Int | .inl x=>x.2.2 | .inr r=>M.a' r
def cH (M:St):(Edge×Edge×Int) ⊕ Rec→St | .inl _=>M | .inr r=>M.a7 r
theorem fB {M:St}{j:Int}{r:Rec}(h:M.a' r=0):bz M j r=⟨j,M.bd r⟩:=ah h
theorem j8 {M:St}{j:Int}{r:Rec}(h:¬M.a' r=0):bz M j r=⟨0,0⟩:=ag h
theorem aV.et {F:Nat→Prop}{w:World}{mb:Nat}{M:St}{j:List (Int×Rec)}(h:aV F w mb M j){id:Int}{r:Rec}{D:Nat}(q:j[D]?=some (id,r)) :
  ∃lb cap,w.cell? ⟨mb,0,none⟩=some (.slice (some ⟨lb,0,none⟩) j.length cap)∧D<j.length∧j.length≤1048576 ∧
   w.cell? ⟨lb,D*8+1,none⟩=some (.int .u8 r.al)∧w.cell? ⟨lb,D*8+2,none⟩=some (.int .u8 r.I)∧w.cell? ⟨lb,D*8+3,none⟩=some (.int .u8 r.J)∧w.cell? ⟨lb,D*8+4,none⟩=some (.int .u8 r.lo.tag) ∧
   w.cell? ⟨lb,D*8+5,none⟩=some (.int .u32 r.lo.to)∧w.cell? ⟨lb,D*8+6,none⟩=some (.int .u8 r.hi.tag)∧w.cell? ⟨lb,D*8+7,none⟩=some (.int .u32 r.hi.to):=by
 have z:=(List.getElem?_eq_some_iff.1 q).1
 obtain⟨a,cap,s,t⟩:=h.cell
 obtain⟨lb,rfl,_,A⟩:=t (by omega)
 have g:=fun j (t:j<8)=>A D _ q j t
 exact⟨lb,cap,s,z,h.le,(g 1 (by omega)).trans rfl,(g 2 (by omega)).trans rfl,(g 3 (by omega)).trans rfl,(g 4 (by omega)).trans rfl,(g 5 (by omega)).trans rfl,(g 6 (by omega)).trans rfl,(g 7 (by omega)).trans rfl⟩
theorem qB {M:St}{r:Rec}{f l:Int}(j:r.ok)(s:0≤l)(t:l≤16)(q:0≤f∧f≤255):(⟨f,l+1,r.J,r.lo,r.hi⟩:Rec).ok:=
 ⟨q,⟨by show 0≤l+1;omega,by show l+1≤255;omega⟩,j.J,j.lo,j.hi⟩
theorem kW {F:Nat→Prop}{w:World}{sb:Nat}{M:St}(h:ak F w sb M)(r:Rec)(L:r.ok) :
  Calls Tryz.prog 188 #[.pointer (some ⟨sb,0,none⟩),.agg #[.int .u8 r.al,.int .u8 r.I,.int .u8 r.J,.int .u8 r.lo.tag,.int .u32 r.lo.to,.int .u8 r.hi.tag,.int .u32 r.hi.to]] w fun e w'=>e=.returned (.tuple #[.agg #[.int .u8 (bz M 0 r).tag,.int .u32 (bz M 0 r).to],.int .u8 (M.a' r)])∧af F w w'∧ak (aC F w w') w' sb (M.a7 r):=by
 have I:=fun(j:World) (J:ae w j)=>kJ (h.ad J) r L
 by_cases s:M.a' r=0
 ·have t:bz M 0 r=⟨0,M.bd r⟩:=ah s;rw[t,s];rw[s]at I;refine(wM sb r (M.bd r) w h.pos h.lt (fun j q=>ak (aC F j q) q sb (M.a7 r)) I).mono ?_;rintro e w' ⟨rfl,j,q,z,A,B,E⟩;exact⟨rfl,B.after h.lt z A E⟩
 ·have t:bz M 0 r=⟨0,0⟩:=ag s;rw[t];refine(wL sb r (M.bd r) (M.a' r) s w h.pos h.lt (fun j q=>ak (aC F j q) q sb (M.a7 r)) I).mono ?_;rintro e w' ⟨rfl,j,q,z,A,B,E⟩;exact⟨rfl,B.after h.lt z A E⟩
theorem kX {F:Nat→Prop}{w:World}{sb:Nat}{M:St}(h:ak F w sb M)(r:Rec)(L:r.ok) :
  Calls Tryz.prog 189 #[.pointer (some ⟨sb,0,none⟩),.agg #[.int .u8 r.al,.int .u8 r.I,.int .u8 r.J,.int .u8 r.lo.tag,.int .u32 r.lo.to,.int .u8 r.hi.tag,.int .u32 r.hi.to]] w fun e w'=>e=.returned (.tuple #[.agg #[.int .u8 (bz M 0 r).tag,.int .u32 (bz M 0 r).to],.int .u8 (M.a' r)])∧af F w w'∧ak (aC F w w') w' sb (M.a7 r):=by
 have I:=fun(j:World) (J:ae w j)=>kJ (h.ad J) r L
 by_cases s:M.a' r=0
 ·have t:bz M 0 r=⟨0,M.bd r⟩:=ah s;rw[t,s];rw[s]at I;refine(Ev sb r (M.bd r) w h.pos h.lt (fun j q=>ak (aC F j q) q sb (M.a7 r)) I).mono ?_;rintro e w' ⟨rfl,j,q,z,A,B,E⟩;exact⟨rfl,B.after h.lt z A E⟩
 ·have t:bz M 0 r=⟨0,0⟩:=ag s;rw[t];refine(Eu sb r (M.bd r) (M.a' r) s w h.pos h.lt (fun j q=>ak (aC F j q) q sb (M.a7 r)) I).mono ?_;rintro e w' ⟨rfl,j,q,z,A,B,E⟩;exact⟨rfl,B.after h.lt z A E⟩
open Go.RowKit Go.Shelf
attribute [local go_sem] Oper.semAt_some
def dN:Int→List (Option Rec)→List Int
 |_,[]=>[]
 |i,some _::j=>i::dN (i+1) j
 |i,none::j=>dN (i+1) j
def cI (cs:List (Option Rec)):List Int:=dN 2 cs
theorem oE (i:Int)(a b:List (Option Rec)):dN i (a++b)=dN i a++dN (i+a.length) b:=by
 induction a generalizing i with
 |nil=>simp[dN]
 |cons x a j=>
  have e:i+1+(a.length:Int)=i+((x::a).length:Int):=by rw[dm];omega
  cases x with
  |none=>show dN (i+1) (a++b)=dN (i+1) a++_;rw[j,e]
  |some r=>show i::dN (i+1) (a++b)=(i::dN (i+1) a)++_;rw[j,e];rfl
theorem yr {cs:List (Option Rec)}{k:Nat}{r:Rec}(h:cs[k]?=some (some r)):cI (cs.take (k+1))=cI (cs.take k)++[(k:Int)+2]:=by
 obtain⟨q,j⟩:=List.getElem?_eq_some_iff.1 h;unfold cI;rw[List.take_succ_eq_append_getElem q,j,oE,iV,show min k cs.length=k by omega,show(2:Int)+(k:Int)=(k:Int)+2 by omega];rfl
theorem yq {cs:List (Option Rec)}{k:Nat}(h:cs[k]?=some none):cI (cs.take (k+1))=cI (cs.take k):=by
 obtain⟨q,j⟩:=List.getElem?_eq_some_iff.1 h;unfold cI;rw[List.take_succ_eq_append_getElem q,j,oE];simp[dN]
theorem rk (cs:List (Option Rec))(k:Nat):cI (cs.take k) <+: cI cs:=by
 refine⟨dN (2+((cs.take k).length:Int)) (cs.drop k),?_⟩;unfold cI;rw[←oE,List.take_append_drop]
theorem yp {F:Nat→Prop}{St:World→Prop}{I J:Nat}{cs:List (Option Rec)}{gone:List Int}{Y room:Int}(S:∀t,St t→dy F t I cs gone Y room∧t.cell? ⟨J,0,none⟩=some (.pointer (some ⟨I,0,none⟩))) :
  Iter Tryz.prog 209 #[.pointer (some ⟨J,0,none⟩)] (cI cs) 0 St:=by
 intro l U t W N t t ad L n
 obtain⟨O,t⟩:=S _ (N _ _ L)
 obtain⟨X,cap,t,_⟩:=O.cell
 have t:=O.bx
 refine callsIn_of_wp Tryz.func209 rfl trivial ?_ rfl
 simp only[Tryz.ntmps209,List.size_toArray,dm,List.length_nil,Nat.reduceAdd,Nat.reduceSub,Array.replicate_succ,Array.replicate_zero,List.push_toArray,List.append_toArray,List.nil_append,List.cons_append]
 gi_wp2
 gi_loopw [11] (fun i wr=>∃k:Nat,k≤cs.length∧i=.int .i64 k∧U (cI (cs.take k)) wr∧W.heap.size≤wr.heap.size)
  (fun i _=>cs.length-(intOf i).toNat)
 case atStart=>exact⟨0,Nat.zero_le _,rfl,L,aE _⟩
 case round=>
  obtain⟨k,a0,rfl,j,T⟩:=hrel;obtain⟨z,t⟩:=S _ (N _ _ j);obtain⟨X,cap,t,A⟩:=z.cell;by_cases av:k<cs.length
  ·obtain⟨aw,rfl,_,_,B,_⟩:=A (by omega);obtain⟨x,E⟩:∃x,cs[k]?=some x:=⟨_,ar av⟩;have s:=B k x E 7 (by decide);cases x with
   |none=>
    have am:=s.trans (show(cX none)[7]?=some (.bool false)from rfl);have q:=yq E;clear z B A s;gi_wp2
    refine⟨fun _ h=>(by cases h),?_⟩;gi_wp2
    go_roundw
    case rel=>exact⟨k+1,by omega,by simp,by rw[q];exact j,T⟩
    case measure=>simp[intOf];omega
   |some r=>
    have am:=s.trans (show(cX (some r))[7]?=some (.bool true)from rfl);have q:=yr E;obtain⟨fn,tmps,assign,body,t,al⟩:=ad (n-1) _ ((k:Int)+2) wr j (by rw[←q];exact rk cs (k+1)) T;clear z B A s;gi_wp2
    refine⟨fun h=>(by cases h),?_⟩;refine al.mono ?_;rintro e s ⟨_,a1,(⟨rfl,Z⟩|⟨rfl,ab⟩)⟩
    ·gi_wp2
     go_roundw
     case rel=>exact⟨k+1,by omega,by simp,by rw[q];exact Z,by omega⟩
     case measure=>simp[intOf];omega
    ·gi_wp2
     refine aq (results_none rfl _ _ _) rfl ?_;exact⟨⟨_,rfl⟩,.inr ⟨_,by rw[←q];exact rk cs (k+1),ab⟩⟩
  ·obtain rfl:k=cs.length:=(by omega);rw[List.take_length]at j;gi_wp2
   go_end0;exact⟨⟨_,rfl⟩,.inl j⟩
theorem rj:∀(cs:List (Option Rec)) (i x:Int),x∈dN i cs↔∃(k:Nat) (r:Rec),cs[k]?=some (some r)∧x=i+k:=by
 intro cs;induction cs with
 |nil=>intro i x;simp[dN]
 |cons c cs s=>
  intro i x;cases c with
  |none=>
   show x∈dN (i+1) cs↔_;rw[s];constructor;·rintro⟨k,r,j,q⟩;exact⟨k+1,r,by simpa using j,by omega⟩
   ·rintro⟨k,r,j,q⟩;cases k with
    |zero=>simp at j
    |succ k=>exact⟨k,r,by simpa using j,by omega⟩
  |some t=>
   show x∈i::dN (i+1) cs↔_;rw[List.mem_cons,s];constructor
   ·rintro(h|⟨k,r,j,q⟩);·exact⟨0,t,rfl,by omega⟩
    ·exact⟨k+1,r,by simpa using j,by omega⟩
   ·rintro⟨k,r,j,q⟩;cases k with
    |zero=>left;omega
    |succ k=>right;exact⟨k,r,by simpa using j,by omega⟩
theorem oF:∀(cs:List (Option Rec)) (i:Int),(dN i cs).Pairwise (·<·):=by
 intro cs;induction cs with
 |nil=>intro i;simp[dN]
 |cons c cs j=>
  intro i;cases c with
  |none=>exact j (i+1)
  |some s=>
   show(i::dN (i+1) cs).Pairwise (·<·);rw[List.pairwise_cons];refine⟨fun x q=>?_,j (i+1)⟩;obtain⟨k,r,_,j⟩:=(rj cs (i+1) x).1 q;omega
theorem mh {cs:List (Option Rec)}{x:Int}:x∈cI cs↔look cs x≠none:=by
 unfold cI;rw[rj];constructor
 ·rintro⟨k,r,q,rfl⟩ h;have:=(jh (cs:=cs) (i:=k) (r:=r)).2 q;rw[show(2:Int)+(k:Int)=(k:Int)+2 by omega,this]at h;cases h
 ·intro h;cases j:look cs x with
  |none=>exact absurd j h
  |some r=>
   obtain⟨s,t,q⟩:=ck j;exact⟨(x-2).toNat,r,q,by omega⟩
theorem ri:∀(cs:List (Option Rec)) (i:Int),(dN i cs).length=(cs.filter Option.isSome).length:=by
 intro cs;induction cs with
 |nil=>intro i;rfl
 |cons c cs j=>
  intro i;cases c with
  |none=>exact j (i+1)
  |some q=>show(dN (i+1) cs).length+1=_;rw[j];rfl
theorem sq:∀{a b:List Int},a.Nodup→(∀x,x∈a→x∈b)→a.length≤b.length:=by
 intro a;induction a with
 |nil=>intro b _ _;exact Nat.zero_le _
 |cons x a z=>
  intro b t q;have s:x∈b:=q x (List.mem_cons_self);have j:=List.nodup_cons.1 t
  have t:=z (b:=b.erase x) j.2 (fun y t=>by
   have z:y≠x:=fun e=>j.1 (e ▸ t)
   exact(List.mem_erase_of_ne z).2 (q y (eE _ t)))
  have j:=List.length_erase_of_mem s;have j:0<b.length:=List.length_pos_of_mem s;rw[dm];omega
theorem mQ {a:List Int}(h:a.Pairwise (·<·)):a.Nodup:=h.imp (fun j e=>by omega)
def cW (_:St)(l:Int)(lo hi:Edge):(Edge×Int) ⊕ Rec:=if lo=hi then .inl (lo,0)else .inr ⟨1,l,l,lo,hi⟩
def dc (_:St)(l:Int)(lo hi:Edge):(Edge×Int) ⊕ Rec:=if hi.to=0 then .inl (lo,0)else .inr ⟨2,l,l,lo,hi⟩
def bk (M:St)(l:Int)(lo hi:Edge):(Edge×Int) ⊕ Rec:=
 if lo=hi then .inl (lo,0)else match look M.cs lo.to with
  |none=>.inr ⟨3,l,l,lo,hi⟩
  |some r=>if r.I=l+1 then(if r.hi=hi then .inr ⟨3,l,r.J,r.lo,hi⟩else .inr ⟨3,l,l,lo,hi⟩)else .inr ⟨3,l,l,lo,hi⟩
def bm (M:St)(l:Int)(lo hi:Edge):(Edge×Int) ⊕ Rec:=
 if hi.to=0 then .inl (lo,0)else match look M.cs lo.to with
  |none=>.inr ⟨4,l,l,lo,hi⟩
  |some r=>if lo=hi then(if r.I=l+1 then .inr ⟨4,l,r.J,r.lo,r.hi⟩else .inr ⟨4,l,l,lo,hi⟩)else .inr ⟨4,l,l,lo,hi⟩
def az (M:St)(f l:Int)(lo hi:Edge)(rest:(Edge×Int) ⊕ Rec):(Edge×Int) ⊕ Rec:=
 if l<0∨M.n≤l then .inl (⟨0,0⟩,3)
 else if M.leads f lo (l+1)=false∨M.leads f hi (l+1)=false then .inl (⟨0,0⟩,1)else rest
def eD (M:St):(Edge×Int) ⊕ Rec→Edge | .inl x=>x.1 | .inr r=>bz M 0 r
theorem kz {f l b:Int}{lo hi:Edge}(s:0≤f∧f≤255)(j:0≤l)(A:l≤16)(q:0≤b∧b≤255)(z:lo.ok)(t:hi.ok):(⟨f,l,b,lo,hi⟩:Rec).ok:=
 ⟨s,⟨j,by show l≤255;omega⟩,q,z,t⟩
theorem vx {F:Nat→Prop}{w:World}{sb:Nat}{M:St}(h:ak F w sb M)(r:Rec)(L:r.ok) :
  Calls Tryz.prog 186 #[.pointer (some ⟨sb,0,none⟩),.agg #[.int .u8 r.al,.int .u8 r.I,.int .u8 r.J,.int .u8 r.lo.tag,.int .u32 r.lo.to,.int .u8 r.hi.tag,.int .u32 r.hi.to]] w fun e w'=>e=.returned (.tuple #[.agg #[.int .u8 (bz M 0 r).tag,.int .u32 (bz M 0 r).to],.int .u8 (M.a' r)])∧af F w w'∧ak (aC F w w') w' sb (M.a7 r):=by
 have I:=fun(j:World) (J:ae w j)=>kJ (h.ad J) r L
 by_cases s:M.a' r=0
 ·have t:bz M 0 r=⟨0,M.bd r⟩:=ah s;rw[t,s];rw[s]at I;refine(vJ sb r (M.bd r) w h.pos h.lt (fun j q=>ak (aC F j q) q sb (M.a7 r)) I).mono ?_;rintro e w' ⟨rfl,j,q,z,A,B,E⟩;exact⟨rfl,B.after h.lt z A E⟩
 ·have t:bz M 0 r=⟨0,0⟩:=ag s;rw[t];refine(vI sb r (M.bd r) (M.a' r) s w h.pos h.lt (fun j q=>ak (aC F j q) q sb (M.a7 r)) I).mono ?_;rintro e w' ⟨rfl,j,q,z,A,B,E⟩;exact⟨rfl,B.after h.lt z A E⟩
theorem Eo {F:Nat→Prop}{w:World}{sb:Nat}{M:St}(h:ak F w sb M)(r:Rec)(L:r.ok) :
  Calls Tryz.prog 187 #[.pointer (some ⟨sb,0,none⟩),.agg #[.int .u8 r.al,.int .u8 r.I,.int .u8 r.J,.int .u8 r.lo.tag,.int .u32 r.lo.to,.int .u8 r.hi.tag,.int .u32 r.hi.to]] w fun e w'=>e=.returned (.tuple #[.agg #[.int .u8 (bz M 0 r).tag,.int .u32 (bz M 0 r).to],.int .u8 (M.a' r)])∧af F w w'∧ak (aC F w w') w' sb (M.a7 r):=by
 have I:=fun(j:World) (J:ae w j)=>kJ (h.ad J) r L
 by_cases s:M.a' r=0
 ·have t:bz M 0 r=⟨0,M.bd r⟩:=ah s;rw[t,s];rw[s]at I;refine(En sb r (M.bd r) w h.pos h.lt (fun j q=>ak (aC F j q) q sb (M.a7 r)) I).mono ?_;rintro e w' ⟨rfl,j,q,z,A,B,E⟩;exact⟨rfl,B.after h.lt z A E⟩
 ·have t:bz M 0 r=⟨0,0⟩:=ag s;rw[t];refine(Em sb r (M.bd r) (M.a' r) s w h.pos h.lt (fun j q=>ak (aC F j q) q sb (M.a7 r)) I).mono ?_;rintro e w' ⟨rfl,j,q,z,A,B,E⟩;exact⟨rfl,B.after h.lt z A E⟩
theorem mI:∀(R ps:List Int),R.Nodup→(∀x∈R,x∈ps)→ps.length≤R.length→ps.Perm R:=by
 intro R;induction R with
 |nil=>
  intro ps _ _ j;rw[List.length_nil,Nat.le_zero,List.length_eq_zero_iff]at j;rw[j]
 |cons x R B=>
  intro ps q t j;rw[List.nodup_cons]at q;have A:=t x (by simp);have s:=List.perm_cons_erase A;refine s.trans (List.Perm.cons x (B _ q.2 (fun y z=>?_) ?_))
  ·have A:y≠x:=fun e=>q.1 (e ▸ z);exact(List.mem_erase_of_ne A).2 (t y (by simp[z]))
  ·have:=s.length_eq;simp at this j;omega
def fc (n:Nat):List Int:=(List.range n).map (fun i:Nat=>(i:Int))
theorem ku (n:Nat):(fc n).length=n:=by unfold fc;simp
theorem gQ {n:Nat}{x:Int}:x∈fc n↔0≤x∧x<(n:Int):=by
 unfold fc;rw[List.mem_map];constructor
 ·rintro⟨a,j,rfl⟩;rw[List.mem_range]at j;omega
 ·intro h;exact⟨x.toNat,by rw[List.mem_range];omega,by omega⟩
theorem oZ (n:Nat):(fc n).Nodup:=by
 unfold fc;exact List.Pairwise.map _ (fun a b (h:a≠b) e=>h (by omega)) List.nodup_range
theorem mH {ps:List Int}:aF ps=true↔(ps.length≤16∧ps.Perm (fc ps.length)):=by
 rw[dD];constructor
 ·rintro⟨q,j,t⟩;exact⟨q,(mI ps (fc ps.length) t (fun x s=>gQ.2 (j x s)) (by rw[ku];omega)).symm⟩
 ·rintro⟨q,j⟩;exact⟨q,fun x s=>gQ.1 (j.mem_iff.1 s),j.nodup_iff.2 (oZ _)⟩
theorem AE {ps:List Int}(j:ps.length≤16):aF ps=true↔∀i:Nat,i<ps.length→ps.count (i:Int)=1:=by
 rw[mH];constructor
 ·rintro⟨_,h⟩ i hi;rw[h.count_eq,(oZ _).count,ah (gQ.2 (by omega))]
 ·intro h;refine⟨j,mI _ _ (oZ _) (fun x q=>?_) (by rw[ku];omega)⟩;obtain⟨j,s⟩:=gQ.1 q;have:=h x.toNat (by omega);rw[show((x.toNat:Nat):Int)=x by omega]at this;exact List.count_pos_iff.1 (by omega)
theorem sV (a:Option Addr)(cap:Nat)(ps:List Int)(w:World)(h:bH w a ps)(X:ps.length≤16) :
  Calls Tryz.prog 9 #[.slice a ps.length cap] w fun e w'=>e=.returned (.bool (aF ps))∧w=w':=by
 have E:=AE X
 obtain⟨q,B⟩:∃q,q=ps.length:=⟨_,rfl⟩
 rw[←B]at X E ⊢
 have H:=aa h
 have S:=aa B
 have L:=aa E
 clear h B E
 go_enter Tryz.func9,Tryz.ntmps9
 go_wp2
 go_loopg [3,4,5] q (fun gk B Z ab wr=>∃(d:Nat),B=.int .i64 (d:Int)∧d+gk=q∧(∀i:Nat,i<d→ps.count (i:Int)=1)∧w=wr)
 case atStart=>exact⟨0,rfl,by omega,fun i hi=>by omega,rfl⟩
 case round=>
  obtain⟨d,rfl,a4,s,rfl⟩:=hrel;have J:=aa s;obtain⟨am,W⟩:∃g,g=gk:=⟨_,rfl⟩;have O:=aa W;clear s W;by_cases a1:d<q
  ·go_wp2_with fail;go_loopg [4,5] q (fun gk Z ab B=>∃(j c:Nat),ab=.int .i64 (j:Int)∧Z=.int .i64 (c:Int)∧j+gk=q∧c=(ps.take j).count (d:Int)∧c≤j∧w=B)
   case atStart=>exact⟨0,0,rfl,rfl,by omega,by simp,by omega,rfl⟩
   case round=>
    obtain⟨j,c,rfl,rfl,a5,T,a3,rfl⟩:=hrel;have A:=aa T;clear T;by_cases a0:j<q
    ·obtain⟨x,I⟩:∃b,ps[j]?=some b:=⟨_,ar (by rw[←S.out];exact a0)⟩;obtain⟨b,off,rfl,q⟩:=H.out j x I;have t:=gT I;have z:=aa t;clear I t;by_cases Y:x=(d:Int)
     ·subst Y;go_wp2_with fail;go_roundg (gk-1)
      case rel=>exact⟨j+1,c+1,by simp,by simp,by omega,by rw[z.out,List.count_append,A.out];simp,by omega,rfl⟩
      case measure=>omega
     ·go_wp2_with fail;go_roundg (gk-1)
      case rel=>exact⟨j+1,c,by simp,rfl,by omega,by rw[z.out,List.count_append,A.out];simp[Y],by omega,rfl⟩
      case measure=>omega
    ·have j:c=ps.count (d:Int):=by
      rw[A.out,ic (by rw[←S.out];omega)]
     have N:=aa j;clear j;by_cases av:c=1
     ·subst av
      have s:∀i:Nat,i<d+1→ps.count (i:Int)=1:=fun i hi=>by
       by_cases e:i=d;·subst e;exact N.out.symm
       ·exact J.out i (by omega)
      have ad:=aa s;clear s;go_wp2_with fail;go_roundg (am-1)
      case rel=>exact⟨d+1,by simp,by have:=O.out;omega,ad.out,rfl⟩
      case measure=>have:=O.out;omega
     ·have U:aF ps=false:=by
       cases aw:aF ps with
       |false=>rfl
       |true=>have:=L.out.1 aw d a1;have:=N.out;omega
      have al:=aa U;have j:((c:Int) != 1)=true:=(by simp;omega);clear U;go_wp2_with fail;go_ret;exact⟨by rw[al.out];rfl,rfl⟩
  ·have t:aF ps=true:=L.out.2 (fun i hi=>J.out i (by omega));have z:=aa t;clear t;go_wp2_with fail;go_ret;exact⟨by rw[z.out];simp;omega,rfl⟩
theorem DM (sb:Nat)(l n:Int)(v:Edge)(w:World)(z:n≤16)(A:sb<w.heap.size)
  (q:∀j,ae w j→Calls Tryz.prog 48 #[.pointer (some ⟨sb,0,none⟩)] j fun e w'=>e=.returned (.int .i64 n)∧j=w')
  (t:l<0)
  : Calls Tryz.prog 271 #[.pointer (some ⟨sb,0,none⟩),.agg #[.int .u8 v.tag,.int .u32 v.to],.int .i64 l] w fun e w'=>e=.returned (.tuple #[.agg #[.int .u8 0,.int .u32 0],.agg #[.int .u8 0,.int .u32 0],.int .u8 3])∧ae w w':=by
 have s:=aa q
 clear q
 go_enter Tryz.func271,Tryz.ntmps271
 go_wp2_with (first|(go_at_call 48;refine(s.out _ kp).mono ?_;rintro e w' ⟨rfl,rfl⟩)|fail)
 go_region
 all_goals go_wp2
 all_goals refine aq (v:=.tuple #[.agg #[.int .u8 0,.int .u32 0],.agg #[.int .u8 0,.int .u32 0],.int .u8 3]) (by simp[results,Tryz.results271,go_sem]) rfl ⟨rfl,kp⟩
theorem DL (sb:Nat)(l n:Int)(v:Edge)(w:World)(A:n≤16)(B:sb<w.heap.size)
  (q:∀j,ae w j→Calls Tryz.prog 48 #[.pointer (some ⟨sb,0,none⟩)] j fun e w'=>e=.returned (.int .i64 n)∧j=w')
  (t:0≤l) (z:n≤l)
  : Calls Tryz.prog 271 #[.pointer (some ⟨sb,0,none⟩),.agg #[.int .u8 v.tag,.int .u32 v.to],.int .i64 l] w fun e w'=>e=.returned (.tuple #[.agg #[.int .u8 0,.int .u32 0],.agg #[.int .u8 0,.int .u32 0],.int .u8 3])∧ae w w':=by
 have s:=aa q
 clear q
 go_enter Tryz.func271,Tryz.ntmps271
 go_wp2_with (first|(go_at_call 48;refine(s.out _ kp).mono ?_;rintro e w' ⟨rfl,rfl⟩)|fail)
 go_region
 all_goals go_wp2
 all_goals refine aq (v:=.tuple #[.agg #[.int .u8 0,.int .u32 0],.agg #[.int .u8 0,.int .u32 0],.int .u8 3]) (by simp[results,Tryz.results271,go_sem]) rfl ⟨rfl,kp⟩
theorem DN (sb:Nat)(l n:Int)(v:Edge)(w:World)(U:n≤16)(W:sb<w.heap.size)
  (t:∀q,ae w q→Calls Tryz.prog 48 #[.pointer (some ⟨sb,0,none⟩)] q fun e w'=>e=.returned (.int .i64 n)∧q=w')
  (S:0≤l) (T:l<n)
  (s:∀q,ae w q→Calls Tryz.prog 134 #[.pointer (some ⟨sb,0,none⟩),.int .u8 5,.agg #[.int .u8 v.tag,.int .u32 v.to],.int .i64 l] q fun e w'=>e=.returned (.bool false)∧ae q w')
  : Calls Tryz.prog 271 #[.pointer (some ⟨sb,0,none⟩),.agg #[.int .u8 v.tag,.int .u32 v.to],.int .i64 l] w fun e w'=>e=.returned (.tuple #[.agg #[.int .u8 0,.int .u32 0],.agg #[.int .u8 0,.int .u32 0],.int .u8 1])∧ae w w':=by
 have A:=aa t
 clear t
 have z:=aa s
 clear s
 go_enter Tryz.func271,Tryz.ntmps271
 go_wp2_with (first|(go_at_call 48;refine(A.out _ kp).mono ?_;rintro e w' ⟨rfl,rfl⟩)|fail)
 (go_at_call 134;refine(z.out _ kp).mono ?_;rintro e w1 ⟨rfl,j⟩;have B:=j.size;simp only[ai]at B;have q:w.heap.size<w1.heap.size:=(by omega);have E:w.heap.size+1<w1.heap.size:=(by omega);have I:w.heap.size+2<w1.heap.size:=(by omega);have q:=j.U (a:=⟨w.heap.size,0,none⟩) (v:=.int .u8 v.tag);have q:=j.U (a:=⟨w.heap.size,1,none⟩) (v:=.int .u32 v.to);have J:=j.U (a:=⟨w.heap.size+1,0,none⟩) (v:=.int .u8 0);have L:=j.U (a:=⟨w.heap.size+1,1,none⟩) (v:=.int .u32 0);have N:=j.U (a:=⟨w.heap.size+2,0,none⟩) (v:=.int .u8 0);have O:=j.U (a:=⟨w.heap.size+2,1,none⟩) (v:=.int .u32 0);have q:=fun o:Nat=>j.a3 (a:=⟨w.heap.size+1,o,none⟩) (by simp[go_sem]) (by simp[go_sem]);have q:=fun o:Nat=>j.a3 (a:=⟨w.heap.size+2,o,none⟩) (by simp[go_sem]) (by simp[go_sem]);have j:ae w w1:=kp)
 go_wp2_with fail
 go_region
 all_goals go_wp2
 all_goals refine aq (v:=.tuple #[.agg #[.int .u8 0,.int .u32 0],.agg #[.int .u8 0,.int .u32 0],.int .u8 1]) (by simp[results,Tryz.results271,go_sem,E,I,J,L,N,O]) rfl ⟨rfl,kp⟩
theorem DR (sb:Nat)(l n:Int)(s:Int)(w:World)(W:n≤16)(X:sb<w.heap.size)
  (z:∀q,ae w q→Calls Tryz.prog 48 #[.pointer (some ⟨sb,0,none⟩)] q fun e w'=>e=.returned (.int .i64 n)∧q=w')
  (T:0≤l) (U:l<n)
  (t:∀q,ae w q→Calls Tryz.prog 134 #[.pointer (some ⟨sb,0,none⟩),.int .u8 5,.agg #[.int .u8 s,.int .u32 0],.int .i64 l] q fun e w'=>e=.returned (.bool true)∧ae q w')
  : Calls Tryz.prog 271 #[.pointer (some ⟨sb,0,none⟩),.agg #[.int .u8 s,.int .u32 0],.int .i64 l] w fun e w'=>e=.returned (.tuple #[.agg #[.int .u8 s,.int .u32 0],.agg #[.int .u8 s,.int .u32 0],.int .u8 0])∧ae w w':=by
 have B:=aa z
 clear z
 have A:=aa t
 clear t
 go_enter Tryz.func271,Tryz.ntmps271
 go_wp2_with (first|(go_at_call 48;refine(B.out _ kp).mono ?_;rintro e w' ⟨rfl,rfl⟩)|fail)
 (go_at_call 134;refine(A.out _ kp).mono ?_;rintro e w1 ⟨rfl,j⟩;have E:=j.size;simp only[ai]at E;have q:w.heap.size<w1.heap.size:=(by omega);have I:w.heap.size+1<w1.heap.size:=(by omega);have J:w.heap.size+2<w1.heap.size:=(by omega);have q:=j.U (a:=⟨w.heap.size,0,none⟩) (v:=.int .u8 s);have q:=j.U (a:=⟨w.heap.size,1,none⟩) (v:=.int .u32 0);have L:=j.U (a:=⟨w.heap.size+1,0,none⟩) (v:=.int .u8 0);have N:=j.U (a:=⟨w.heap.size+1,1,none⟩) (v:=.int .u32 0);have O:=j.U (a:=⟨w.heap.size+2,0,none⟩) (v:=.int .u8 0);have S:=j.U (a:=⟨w.heap.size+2,1,none⟩) (v:=.int .u32 0);have q:=fun o:Nat=>j.a3 (a:=⟨w.heap.size+1,o,none⟩) (by simp[go_sem]) (by simp[go_sem]);have q:=fun o:Nat=>j.a3 (a:=⟨w.heap.size+2,o,none⟩) (by simp[go_sem]) (by simp[go_sem]);have j:ae w w1:=kp)
 go_wp2_with fail
 go_region
 all_goals go_wp2
 all_goals refine aq (v:=.tuple #[.agg #[.int .u8 s,.int .u32 0],.agg #[.int .u8 s,.int .u32 0],.int .u8 0]) (by simp[results,Tryz.results271,go_sem,I,J,L,N,O,S]) rfl ⟨rfl,kp⟩
theorem DP (sb:Nat)(l n:Int)(v:Edge)(w:World)(W:n≤16)(X:sb<w.heap.size)
  (t:∀q,ae w q→Calls Tryz.prog 48 #[.pointer (some ⟨sb,0,none⟩)] q fun e w'=>e=.returned (.int .i64 n)∧q=w')
  (S:0≤l) (T:l<n)
  (s:∀q,ae w q→Calls Tryz.prog 134 #[.pointer (some ⟨sb,0,none⟩),.int .u8 5,.agg #[.int .u8 v.tag,.int .u32 v.to],.int .i64 l] q fun e w'=>e=.returned (.bool true)∧ae q w')
  (Z:0≤v.tag) (ab:v.tag≤255) (U:¬v.to=0) (Y:l<v.tag)
  : Calls Tryz.prog 271 #[.pointer (some ⟨sb,0,none⟩),.agg #[.int .u8 v.tag,.int .u32 v.to],.int .i64 l] w fun e w'=>e=.returned (.tuple #[.agg #[.int .u8 v.tag,.int .u32 v.to],.agg #[.int .u8 v.tag,.int .u32 v.to],.int .u8 0])∧ae w w':=by
 have A:=aa t
 clear t
 have z:=aa s
 clear s
 go_enter Tryz.func271,Tryz.ntmps271
 go_wp2_with (first|(go_at_call 48;refine(A.out _ kp).mono ?_;rintro e w' ⟨rfl,rfl⟩)|fail)
 (go_at_call 134;refine(z.out _ kp).mono ?_;rintro e w1 ⟨rfl,j⟩;have B:=j.size;simp only[ai]at B;have q:w.heap.size<w1.heap.size:=(by omega);have E:w.heap.size+1<w1.heap.size:=(by omega);have I:w.heap.size+2<w1.heap.size:=(by omega);have q:=j.U (a:=⟨w.heap.size,0,none⟩) (v:=.int .u8 v.tag);have q:=j.U (a:=⟨w.heap.size,1,none⟩) (v:=.int .u32 v.to);have J:=j.U (a:=⟨w.heap.size+1,0,none⟩) (v:=.int .u8 0);have L:=j.U (a:=⟨w.heap.size+1,1,none⟩) (v:=.int .u32 0);have N:=j.U (a:=⟨w.heap.size+2,0,none⟩) (v:=.int .u8 0);have O:=j.U (a:=⟨w.heap.size+2,1,none⟩) (v:=.int .u32 0);have q:=fun o:Nat=>j.a3 (a:=⟨w.heap.size+1,o,none⟩) (by simp[go_sem]) (by simp[go_sem]);have q:=fun o:Nat=>j.a3 (a:=⟨w.heap.size+2,o,none⟩) (by simp[go_sem]) (by simp[go_sem]);have j:ae w w1:=kp)
 go_wp2_with fail
 go_region
 all_goals go_wp2
 all_goals refine aq (v:=.tuple #[.agg #[.int .u8 v.tag,.int .u32 v.to],.agg #[.int .u8 v.tag,.int .u32 v.to],.int .u8 0]) (by simp[results,Tryz.results271,go_sem,E,I,J,L,N,O]) rfl ⟨rfl,kp⟩
theorem DO (sb:Nat)(l n:Int)(v:Edge)(x:Rec)(w:World)(a0:n≤16)(a1:sb<w.heap.size)
  (L:∀j,ae w j→Calls Tryz.prog 48 #[.pointer (some ⟨sb,0,none⟩)] j fun e w'=>e=.returned (.int .i64 n)∧j=w')
  (am:0≤l) (av:l<n)
  (J:∀j,ae w j→Calls Tryz.prog 134 #[.pointer (some ⟨sb,0,none⟩),.int .u8 5,.agg #[.int .u8 v.tag,.int .u32 v.to],.int .i64 l] j fun e w'=>e=.returned (.bool true)∧ae j w')
  (a4:0≤v.tag) (a5:v.tag≤255) (aw:¬v.to=0) (a3:v.tag≤l)
  (I:∀j,ae w j→Calls Tryz.prog 78 #[.pointer (some ⟨sb,0,none⟩),.int .u32 v.to] j fun e w'=>e=.returned (.tuple #[.agg #[.int .u8 x.al,.int .u8 x.I,.int .u8 x.J,.int .u8 x.lo.tag,.int .u32 x.lo.to,.int .u8 x.hi.tag,.int .u32 x.hi.to],.bool false])∧ae j w')
  : Calls Tryz.prog 271 #[.pointer (some ⟨sb,0,none⟩),.agg #[.int .u8 v.tag,.int .u32 v.to],.int .i64 l] w fun e w'=>e=.returned (.tuple #[.agg #[.int .u8 (l+1),.int .u32 v.to],.agg #[.int .u8 0,.int .u32 0],.int .u8 0])∧ae w w':=by
 have Z:=aa L
 clear L
 have Y:=aa J
 clear J
 have X:=aa I
 clear I
 go_enter Tryz.func271,Tryz.ntmps271
 go_wp2_with (first|(go_at_call 48;refine(Z.out _ kp).mono ?_;rintro e w' ⟨rfl,rfl⟩)|fail)
 (go_at_call 134;refine(Y.out _ kp).mono ?_;rintro e w1 ⟨rfl,s⟩;have ad:=s.size;simp only[ai]at ad;have al:w.heap.size<w1.heap.size:=(by omega);have N:w.heap.size+1<w1.heap.size:=(by omega);have O:w.heap.size+2<w1.heap.size:=(by omega);have T:=s.U (a:=⟨w.heap.size,0,none⟩) (v:=.int .u8 v.tag);have U:=s.U (a:=⟨w.heap.size,1,none⟩) (v:=.int .u32 v.to);have z:=s.U (a:=⟨w.heap.size+1,0,none⟩) (v:=.int .u8 0);have A:=s.U (a:=⟨w.heap.size+1,1,none⟩) (v:=.int .u32 0);have B:=s.U (a:=⟨w.heap.size+2,0,none⟩) (v:=.int .u8 0);have E:=s.U (a:=⟨w.heap.size+2,1,none⟩) (v:=.int .u32 0);have S:=fun o:Nat=>s.a3 (a:=⟨w.heap.size+1,o,none⟩) (by simp[go_sem]) (by simp[go_sem]);have W:=fun o:Nat=>s.a3 (a:=⟨w.heap.size+2,o,none⟩) (by simp[go_sem]) (by simp[go_sem]);have ab:ae w w1:=kp)
 go_wp2_with fail
 ·exfalso;simp_all;omega
 (go_at_call 78;refine(X.out _ kp).mono ?_;rintro e t ⟨rfl,q⟩;have j:=q.size;have S:=fun o:Nat=>q.a3 (a:=⟨w.heap.size+1,o,none⟩) (by dsimp only;omega) (S o);have W:=fun o:Nat=>q.a3 (a:=⟨w.heap.size+2,o,none⟩) (by dsimp only;omega) (W o);have T:=q.cell T;have U:=q.cell U;have z:=q.cell z;have A:=q.cell A;have B:=q.cell B;have E:=q.cell E;have al:w.heap.size<t.heap.size:=(by omega);have N:w.heap.size+1<t.heap.size:=(by omega);have O:w.heap.size+2<t.heap.size:=(by omega);have j:ae w t:=ab.trans q)
 go_wp2_with fail
 all_goals refine aq (v:=.tuple #[.agg #[.int .u8 (l+1),.int .u32 v.to],.agg #[.int .u8 0,.int .u32 0],.int .u8 0]) (by simp[results,Tryz.results271,go_sem,N,O,z,A,B,E]) rfl ⟨rfl,kp⟩
theorem DQ (sb:Nat)(l n:Int)(v:Edge)(x:Rec)(w:World)(a0:n≤16)(a1:sb<w.heap.size)
  (L:∀j,ae w j→Calls Tryz.prog 48 #[.pointer (some ⟨sb,0,none⟩)] j fun e w'=>e=.returned (.int .i64 n)∧j=w')
  (am:0≤l) (av:l<n)
  (J:∀j,ae w j→Calls Tryz.prog 134 #[.pointer (some ⟨sb,0,none⟩),.int .u8 5,.agg #[.int .u8 v.tag,.int .u32 v.to],.int .i64 l] j fun e w'=>e=.returned (.bool true)∧ae j w')
  (a4:0≤v.tag) (a5:v.tag≤255) (aw:¬v.to=0) (a3:v.tag≤l)
  (a6:l<x.I) (a7:0≤x.I) (a8:x.I≤255) (a':0≤x.J) (bb:x.J≤255)
  (I:∀j,ae w j→Calls Tryz.prog 78 #[.pointer (some ⟨sb,0,none⟩),.int .u32 v.to] j fun e w'=>e=.returned (.tuple #[.agg #[.int .u8 x.al,.int .u8 x.I,.int .u8 x.J,.int .u8 x.lo.tag,.int .u32 x.lo.to,.int .u8 x.hi.tag,.int .u32 x.hi.to],.bool true])∧ae j w')
  : Calls Tryz.prog 271 #[.pointer (some ⟨sb,0,none⟩),.agg #[.int .u8 v.tag,.int .u32 v.to],.int .i64 l] w fun e w'=>e=.returned (.tuple #[.agg #[.int .u8 (l+1),.int .u32 v.to],.agg #[.int .u8 0,.int .u32 0],.int .u8 0])∧ae w w':=by
 have Z:=aa L
 clear L
 have Y:=aa J
 clear J
 have X:=aa I
 clear I
 go_enter Tryz.func271,Tryz.ntmps271
 go_wp2_with (first|(go_at_call 48;refine(Z.out _ kp).mono ?_;rintro e w' ⟨rfl,rfl⟩)|fail)
 (go_at_call 134;refine(Y.out _ kp).mono ?_;rintro e w1 ⟨rfl,s⟩;have ad:=s.size;simp only[ai]at ad;have al:w.heap.size<w1.heap.size:=(by omega);have N:w.heap.size+1<w1.heap.size:=(by omega);have O:w.heap.size+2<w1.heap.size:=(by omega);have T:=s.U (a:=⟨w.heap.size,0,none⟩) (v:=.int .u8 v.tag);have U:=s.U (a:=⟨w.heap.size,1,none⟩) (v:=.int .u32 v.to);have z:=s.U (a:=⟨w.heap.size+1,0,none⟩) (v:=.int .u8 0);have A:=s.U (a:=⟨w.heap.size+1,1,none⟩) (v:=.int .u32 0);have B:=s.U (a:=⟨w.heap.size+2,0,none⟩) (v:=.int .u8 0);have E:=s.U (a:=⟨w.heap.size+2,1,none⟩) (v:=.int .u32 0);have S:=fun o:Nat=>s.a3 (a:=⟨w.heap.size+1,o,none⟩) (by simp[go_sem]) (by simp[go_sem]);have W:=fun o:Nat=>s.a3 (a:=⟨w.heap.size+2,o,none⟩) (by simp[go_sem]) (by simp[go_sem]);have ab:ae w w1:=kp)
 go_wp2_with fail
 ·exfalso;simp_all;omega
 (go_at_call 78;refine(X.out _ kp).mono ?_;rintro e t ⟨rfl,q⟩;have j:=q.size;have S:=fun o:Nat=>q.a3 (a:=⟨w.heap.size+1,o,none⟩) (by dsimp only;omega) (S o);have W:=fun o:Nat=>q.a3 (a:=⟨w.heap.size+2,o,none⟩) (by dsimp only;omega) (W o);have T:=q.cell T;have U:=q.cell U;have z:=q.cell z;have A:=q.cell A;have B:=q.cell B;have E:=q.cell E;have al:w.heap.size<t.heap.size:=(by omega);have N:w.heap.size+1<t.heap.size:=(by omega);have O:w.heap.size+2<t.heap.size:=(by omega);have j:ae w t:=ab.trans q)
 go_wp2_with fail
 all_goals refine aq (v:=.tuple #[.agg #[.int .u8 (l+1),.int .u32 v.to],.agg #[.int .u8 0,.int .u32 0],.int .u8 0]) (by simp[results,Tryz.results271,go_sem,N,O,z,A,B,E]) rfl ⟨rfl,kp⟩
theorem DK (sb:Nat)(l n:Int)(v:Edge)(x:Rec)(w:World)(a0:n≤16)(a1:sb<w.heap.size)
  (L:∀j,ae w j→Calls Tryz.prog 48 #[.pointer (some ⟨sb,0,none⟩)] j fun e w'=>e=.returned (.int .i64 n)∧j=w')
  (am:0≤l) (av:l<n)
  (J:∀j,ae w j→Calls Tryz.prog 134 #[.pointer (some ⟨sb,0,none⟩),.int .u8 5,.agg #[.int .u8 v.tag,.int .u32 v.to],.int .i64 l] j fun e w'=>e=.returned (.bool true)∧ae j w')
  (a4:0≤v.tag) (a5:v.tag≤255) (aw:¬v.to=0) (a3:v.tag≤l)
   (a6:0≤x.I) (a7:x.I≤255) (a8:0≤x.J) (a':x.J≤255)
  (I:∀j,ae w j→Calls Tryz.prog 78 #[.pointer (some ⟨sb,0,none⟩),.int .u32 v.to] j fun e w'=>e=.returned (.tuple #[.agg #[.int .u8 x.al,.int .u8 l,.int .u8 x.J,.int .u8 x.lo.tag,.int .u32 x.lo.to,.int .u8 x.hi.tag,.int .u32 x.hi.to],.bool true])∧ae j w')
  : Calls Tryz.prog 271 #[.pointer (some ⟨sb,0,none⟩),.agg #[.int .u8 v.tag,.int .u32 v.to],.int .i64 l] w fun e w'=>e=.returned (.tuple #[.agg #[.int .u8 x.lo.tag,.int .u32 x.lo.to],.agg #[.int .u8 x.hi.tag,.int .u32 x.hi.to],.int .u8 0])∧ae w w':=by
 have Z:=aa L
 clear L
 have Y:=aa J
 clear J
 have X:=aa I
 clear I
 go_enter Tryz.func271,Tryz.ntmps271
 go_wp2_with (first|(go_at_call 48;refine(Z.out _ kp).mono ?_;rintro e w' ⟨rfl,rfl⟩)|fail)
 (go_at_call 134;refine(Y.out _ kp).mono ?_;rintro e w1 ⟨rfl,s⟩;have ad:=s.size;simp only[ai]at ad;have al:w.heap.size<w1.heap.size:=(by omega);have N:w.heap.size+1<w1.heap.size:=(by omega);have O:w.heap.size+2<w1.heap.size:=(by omega);have T:=s.U (a:=⟨w.heap.size,0,none⟩) (v:=.int .u8 v.tag);have U:=s.U (a:=⟨w.heap.size,1,none⟩) (v:=.int .u32 v.to);have z:=s.U (a:=⟨w.heap.size+1,0,none⟩) (v:=.int .u8 0);have A:=s.U (a:=⟨w.heap.size+1,1,none⟩) (v:=.int .u32 0);have B:=s.U (a:=⟨w.heap.size+2,0,none⟩) (v:=.int .u8 0);have E:=s.U (a:=⟨w.heap.size+2,1,none⟩) (v:=.int .u32 0);have S:=fun o:Nat=>s.a3 (a:=⟨w.heap.size+1,o,none⟩) (by simp[go_sem]) (by simp[go_sem]);have W:=fun o:Nat=>s.a3 (a:=⟨w.heap.size+2,o,none⟩) (by simp[go_sem]) (by simp[go_sem]);have ab:ae w w1:=kp)
 go_wp2_with fail
 ·exfalso;simp_all;omega
 (go_at_call 78;refine(X.out _ kp).mono ?_;rintro e t ⟨rfl,q⟩;have j:=q.size;have S:=fun o:Nat=>q.a3 (a:=⟨w.heap.size+1,o,none⟩) (by dsimp only;omega) (S o);have W:=fun o:Nat=>q.a3 (a:=⟨w.heap.size+2,o,none⟩) (by dsimp only;omega) (W o);have T:=q.cell T;have U:=q.cell U;have z:=q.cell z;have A:=q.cell A;have B:=q.cell B;have E:=q.cell E;have al:w.heap.size<t.heap.size:=(by omega);have N:w.heap.size+1<t.heap.size:=(by omega);have O:w.heap.size+2<t.heap.size:=(by omega);have j:ae w t:=ab.trans q)
 go_wp2_with fail
 go_region
 all_goals go_wp2
 all_goals refine aq (v:=.tuple #[.agg #[.int .u8 x.lo.tag,.int .u32 x.lo.to],.agg #[.int .u8 x.hi.tag,.int .u32 x.hi.to],.int .u8 0]) (by simp[results,Tryz.results271,go_sem,N,O,z,A,B,E]) rfl ⟨rfl,kp⟩
theorem sJ (n:Nat)(h:n≤16)(w:World) :
  Calls Tryz.prog 102 #[.int .i64 (n:Int)] w fun e w'=>e=.returned (.tuple #[.slice (some ⟨w.heap.size,0,none⟩) n n,.bool true])∧bS w' w.heap.size (fc n)∧ae w w':=by
 obtain⟨Y,z,Z,ab,ad⟩:=info_parts jB
 go_enter Tryz.func102,Tryz.ntmps102
 go_wp2_with (first
  |(at_make;refine wpList_make_full _ rfl _ _ 22 rfl w.heap.size 3 Y (.int .i64 0) 1 Tryz.underlying22 z Z ab .i64 .i64 (n:Int) (n:Int) n rfl rfl rfl rfl (by rw[ad];omega) (by unfold maxLen;omega) (by simp) ?_;intro w1 S t)
  |fail)
 have T:=aa (sZ S)
 have O:ae w w1:=⟨t.os,t.tape,t.output,t.size,fun i hi=>t.block i hi (by simp)⟩
 have U:=aa O
 clear S t O
 go_loopg [5,16] n (fun gk t t wr=>∃(d:Nat) (q:List Int),d+gk=n∧t=.int .i64 (d:Int)∧q.length=n∧(∀(j:Nat) (x:Int),j<d→q[j]?=some x→x=(j:Int))∧bS wr w.heap.size q∧af (fun k=>k=w.heap.size) w1 wr)
 case atStart=>exact⟨0,_,by omega,rfl,by simp,fun j x z=>by omega,T.out,af.refl _ _⟩
 case round=>
  obtain⟨d,q,al,rfl,S,T,t,O⟩:=hrel;have B:=aa t;have J:=aa O;have s:=aa S;have L:=aa T;clear t O S T;by_cases I:d<n
  ·obtain⟨y,A⟩:∃b,q[d]?=some b:=⟨_,ar (by rw[s.out];exact I)⟩;have t:=B.out.cell A;have t:=B.out.frozen d;clear A;go_wp2_with fail;go_roundg (gk-1)
   case rel=>
    refine⟨d+1,q.set d (d:Int),by omega,by simp,by rw[bZ,s.out],fun j x z E=>?_,B.out.set d _ (by rw[s.out];exact I),J.out.setCell (p:=⟨w.heap.size,d,none⟩) (.inl rfl) _⟩;by_cases e:j=d
    ·subst e;rw[gy (by rw[s.out];exact I)]at E;exact(Option.some.inj E).symm
    ·rw[fK (fun h=>e h.symm)]at E;exact L.out j x (by omega) E
   case measure=>omega
  ·have N:q=fc n:=by
    apply List.ext_getElem?;intro j;by_cases z:j<n
    ·obtain⟨y,A⟩:∃b,q[j]?=some b:=⟨_,ar (by rw[s.out];exact z)⟩;have:=L.out j y (by omega) A;rw[A,this];unfold fc;rw[dh,jW z];rfl
    ·rw[cO (by rw[s.out];omega),cO (by rw[ku];omega)]
   have q:=U.out.new J.out (fun k j=>by omega);have j:=B.out;rw[N]at j;have X:=aa j;have W:=aa q;clear j q N;go_wp2_with fail;go_ret2;exact⟨rfl,X.out,W.out⟩
def ct:Nat→Nat
 |0=>1
 |n+1=>(n+1)*ct n
theorem mf (n:Nat):0<ct n:=by
 induction n with
 |zero=>decide
 |succ n j=>exact Nat.mul_pos (by omega) j
def jj:Nat→List Int→Nat→List Int
 |0,_,_=>[]
 |k+1,left,r=>left.getD (r / ct k) 0::jj k (left.eraseIdx (r / ct k)) (r%ct k)
def fq (n r:Nat):List Int:=jj n (fc n) r
theorem Aa:∀(k:Nat) (left:List Int) (r:Nat),(jj k left r).length=k:=by
 intro k;induction k with
 |zero=>intro left r;rfl
 |succ k j=>intro left r;show(jj k _ _).length+1=_;rw[j]
theorem lu (n r:Nat):(fq n r).length=n:=Aa n _ r
theorem Ac:((List.range 6).all fun n=>(List.range (ct n)).all fun r=>aF (fq n r))=true:=by kernel_rfl
theorem sA {n r:Nat}(j:n≤5)(q:r<ct n):aF (fq n r)=true:=by
 have h:=Ac;rw[List.all_eq_true]at h;have j:=h n (List.mem_range.2 (by omega));rw[List.all_eq_true]at j;exact j r (List.mem_range.2 q)
def eZ (j:List Int→Nat)(n:Nat):Nat→List Int
 |0=>fq n 0
 |r+1=>if j (fq n (r+1))<j (eZ j n r)then fq n (r+1)else eZ j n r
def iH (j:List Int→Nat)(n:Nat):List Int:=eZ j n (ct n-1)
theorem rM (s:List Int→Nat)(n:Nat):∀r,∃k,k≤r∧eZ s n r=fq n k:=by
 intro r;induction r with
 |zero=>exact⟨0,aE _,rfl⟩
 |succ r q=>
  obtain⟨k,s,j⟩:=q;unfold eZ;split;·exact⟨r+1,aE _,rfl⟩
  ·exact⟨k,by omega,j⟩
theorem zk (j:List Int→Nat)(n:Nat):∀r k,k≤r→j (eZ j n r)≤j (fq n k):=by
 intro r;induction r with
 |zero=>intro k j;rw[show k=0 by omega];exact aE _
 |succ r s=>
  intro k j;unfold eZ;by_cases q:k=r+1
  ·subst q;split;·exact aE _
   ·omega
  ·have:=s k (by omega);split<;>omega
theorem zj (j:List Int→Nat){n:Nat}(s:n≤5):aF (iH j n)=true∧(iH j n).length=n:=by
 obtain⟨k,t,q⟩:=rM j n (ct n-1);have:=mf n;unfold iH;rw[q];exact⟨sA s (by omega),lu n k⟩
theorem sK {ps:List Int}(z:aF ps=true){v:Int}(s:0≤v)(t:v<(ps.length:Int)):v∈ps:=by
 obtain⟨A,j,q⟩:=dD.1 z;have h:=mI ps (fc ps.length) q (fun x q=>gQ.2 (j x q)) (by rw[ku];exact aE _);exact h.mem_iff.1 (gQ.2 ⟨s,t⟩)
theorem yH (a b:Option Addr)(cap cap2:Nat)(ps qs:List Int)(w:World)(z:bH w a ps)(A:bH w b qs)(Y:ps.length≤1048576)(Z:qs.length≤1048576) :
  Calls Tryz.prog 40 #[.slice a ps.length cap,.slice b qs.length cap2] w fun e w'=>e=.returned (.bool (decide (ps=qs)))∧ae w w':=by
 by_cases s:ps.length=qs.length
 ·obtain⟨j,q⟩:∃j,j=ps.length:=⟨_,rfl⟩;have B:j=qs.length:=q.trans s;rw[←B,←q];rw[←q]at Y;have ad:=aa z;have al:=aa A;have O:=aa q;have N:=aa B;clear z A q B s Z;go_enter Tryz.func40,Tryz.ntmps40;go_wp2;go_loopg [5] j (fun gk B wr=>∃d:Nat,B=.int .i64 (d:Int)∧d+gk=j∧(∀i,i<d→ps[i]?=qs[i]?)∧ae w wr)
  case atStart=>exact⟨0,rfl,by omega,fun i hi=>by omega,kp⟩
  case round=>
   obtain⟨d,rfl,a0,B,I⟩:=hrel;have S:=aa B;clear B;by_cases ab:d<j
   ·obtain⟨x,J⟩:∃b,ps[d]?=some b:=⟨_,ar (by rw[←O.out];exact ab)⟩;obtain⟨y,L⟩:∃b,qs[d]?=some b:=⟨_,ar (by rw[←N.out];exact ab)⟩;obtain⟨av,a1,rfl,W⟩:=ad.out d x J;obtain⟨aw,a3,rfl,B⟩:=al.out d y L;replace W:=I.cell W;replace B:=I.cell B;have T:=aa J;have U:=aa L;have B:(0:Int)≤(d:Int):=(by omega);have B:(d:Int)<(j:Int):=(by omega);clear J L;by_cases E:x=y
    ·subst E;go_wp2_with fail;go_quiet (fail);go_wp2;go_roundg (gk-1)
     case rel=>
      refine⟨d+1,by simp,by omega,fun i hi=>?_,kp⟩;by_cases e:i=d;·subst e;rw[T.out,U.out]
      ·exact S.out i (by omega)
     case measure=>omega
    ·have B:(x != y)=true:=(by simp[E]);have t:Hid (¬ps=qs):=aa (fun e=>by have:=T.out;rw[e,U.out]at this;exact E (Option.some.inj this).symm);go_wp2_with fail;go_quiet (fail);go_wp2;go_ret;exact⟨by rw[aY t.out];rfl,kp⟩
   ·have E:d=j:=by omega
    have B:ps=qs:=by
     apply List.ext_getElem?;intro i;by_cases hi:i<d;·exact S.out i hi
     ·rw[cO (by rw[←O.out];omega),cO (by rw[←N.out];omega)]
    have am:=aa B;clear E B;go_wp2_with fail;go_ret;exact⟨by rw[bc am.out];rfl,I⟩
 ·have t:decide (ps=qs)=false:=aY (fun e=>s (by rw[e]));obtain⟨j,q⟩:∃j,j=ps.length:=⟨_,rfl⟩;obtain⟨K,X⟩:∃K,K=qs.length:=⟨_,rfl⟩;rw[t];rw[←q,←X]at s ⊢;have B:((j:Int) !=(K:Int))=true:=by simp;omega
  clear z A Y Z q X t s;go_enter Tryz.func40,Tryz.ntmps40;go_wp2;go_ret;exact⟨rfl,kp⟩
end Go.Proofs.YtafkamlhimkbmaaGreat
