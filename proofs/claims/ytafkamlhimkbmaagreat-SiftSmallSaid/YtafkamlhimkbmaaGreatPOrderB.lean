/-
  What View does, over the state (printed by wip/mk_vstore.py).
-/
import Derived.Test.YtafkamlhimkbmaaGreatPRLaw
import Derived.Test.YtafkamlhimkbmaaGreatPTMakeA
import Derived.RangeFuncBox
import Derived.Shelf.Abstract
import Derived.Shelf.RegionOpen
import Derived.OwnWalkIn
import Derived.TacticsInMore
import Derived.LoopNIn
import Derived.LoopIn
import Derived.Lib.SliceRun
import Derived.RegionTactic
namespace Go.Proofs.YtafkamlhimkbmaaGreat
set_option maxRecDepth 1000000
set_option maxHeartbeats 8000000
set_option linter.unusedSimpArgs false
set_option linter.unusedVariables false
open Go.RowKit

theorem dD {M:St}{f:Int}{e:Edge}{l:Int}(h:M.leads f e l=true){r:Rec}(j:look M.cs e.to=some r):r.ad=f∧l≤r.I∧e.tag≤r.I:=by
 have q:=(bL j).1;unfold St.leads at h;rw[j,decide_eq_false (show¬e.to<2 by omega)]at h;simp at h;exact⟨h.2.1.1,h.2.1.2,h.2.2⟩

def aI (f l:Int)(e:Edge):Edge×Edge×Int:=
 if f=1∨f=3 then(e,e,0)else if f=5 then(⟨l+1,e.to⟩,⟨0,0⟩,0)else(e,⟨0,0⟩,0)

def af (M:St)(f:Int)(e:Edge)(l:Int):(Edge×Edge×Int) ⊕ Rec:=
 if l<0∨M.n≤l then .inl (⟨0,0⟩,⟨0,0⟩,3)
 else if M.leads f e l=false then .inl (⟨0,0⟩,⟨0,0⟩,1)
 else if f=5∧(e.to=0∨l<e.tag)then .inl (e,e,0)
 else match look M.cs e.to with
  |none=>.inl (aI f l e)
  |some r=>if l<r.I then .inl (aI f l e)else if(f=3∨f=4)∧r.J≠r.I then .inr ⟨r.ad,r.I+1,r.J,r.lo,r.hi⟩else .inl (r.lo,r.hi,0)

def bN (M:St):(Edge×Edge×Int) ⊕ Rec→Edge | .inl x=>x.1 | .inr r=>ba M 0 r
def bk (M:St)(f:Int):(Edge×Edge×Int) ⊕ Rec→Edge | .inl x=>x.2.1 | .inr r=>if M.a7 r=0 then(if f=4 then ba M 0 r else r.hi)else⟨0,0⟩
def bT (M:St):(Edge×Edge×Int) ⊕ Rec→Int | .inl x=>x.2.2 | .inr r=>M.a7 r
def bQ (M:St):(Edge×Edge×Int) ⊕ Rec→St | .inl _=>M | .inr r=>M.a6 r
theorem dW {M:St}{j:Int}{r:Rec}(h:M.a7 r=0):ba M j r=⟨j,M.bg r⟩:=if_pos h

theorem iM {M:St}{j:Int}{r:Rec}(h:¬M.a7 r=0):ba M j r=⟨0,0⟩:=if_neg h

theorem oX {M:St}{r:Rec}{f l:Int}(j:r.ok)(s:0≤l)(t:l≤16)(q:0≤f∧f≤255):(⟨f,l+1,r.J,r.lo,r.hi⟩:Rec).ok:=
 ⟨q,⟨by show 0≤l+1;omega,by show l+1≤255;omega⟩,j.J,j.lo,j.hi⟩

theorem jq {F:Nat→Prop}{w:World}{s:Nat}{M:St}(h:ag F w s M)(r:Rec)(N:r.ok) :
  Calls Tryz.prog 188 #[.pointer (some ⟨s,0,none⟩),.agg #[.int .u8 r.ad,.int .u8 r.I,.int .u8 r.J,.int .u8 r.lo.tag,.int .u32 r.lo.to,.int .u8 r.hi.tag,.int .u32 r.hi.to]] w fun e w'=>e=.returned (.tuple #[.agg #[.int .u8 (ba M 0 r).tag,.int .u32 (ba M 0 r).to],.int .u8 (M.a7 r)])∧ae F w w'∧ag (au F w w') w' s (M.a6 r):=by
 have K:=fun(j:World) (L:aa w j)=>jQ (h.U L) r N
 by_cases t:M.a7 r=0
 ·have z:ba M 0 r=⟨0,M.bg r⟩:=if_pos t;rw[z,t];rw[t]at K;refine(uj s r (M.bg r) w h.pos h.lt (fun j q=>ag (au F j q) q s (M.a6 r)) K).mono ?_;rintro e w' ⟨rfl,j,q,A,E,I,J⟩;exact⟨rfl,I.after h.lt A E J⟩
 ·have z:ba M 0 r=⟨0,0⟩:=if_neg t;rw[z];refine(ui s r (M.bg r) (M.a7 r) t w h.pos h.lt (fun j q=>ag (au F j q) q s (M.a6 r)) K).mono ?_;rintro e w' ⟨rfl,j,q,A,E,I,J⟩;exact⟨rfl,I.after h.lt A E J⟩

theorem js {F:Nat→Prop}{w:World}{s:Nat}{M:St}(h:ag F w s M)(r:Rec)(N:r.ok) :
  Calls Tryz.prog 189 #[.pointer (some ⟨s,0,none⟩),.agg #[.int .u8 r.ad,.int .u8 r.I,.int .u8 r.J,.int .u8 r.lo.tag,.int .u32 r.lo.to,.int .u8 r.hi.tag,.int .u32 r.hi.to]] w fun e w'=>e=.returned (.tuple #[.agg #[.int .u8 (ba M 0 r).tag,.int .u32 (ba M 0 r).to],.int .u8 (M.a7 r)])∧ae F w w'∧ag (au F w w') w' s (M.a6 r):=by
 have K:=fun(j:World) (L:aa w j)=>jQ (h.U L) r N
 by_cases t:M.a7 r=0
 ·have z:ba M 0 r=⟨0,M.bg r⟩:=if_pos t;rw[z,t];rw[t]at K;refine(CV s r (M.bg r) w h.pos h.lt (fun j q=>ag (au F j q) q s (M.a6 r)) K).mono ?_;rintro e w' ⟨rfl,j,q,A,E,I,J⟩;exact⟨rfl,I.after h.lt A E J⟩
 ·have z:ba M 0 r=⟨0,0⟩:=if_neg t;rw[z];refine(CU s r (M.bg r) (M.a7 r) t w h.pos h.lt (fun j q=>ag (au F j q) q s (M.a6 r)) K).mono ?_;rintro e w' ⟨rfl,j,q,A,E,I,J⟩;exact⟨rfl,I.after h.lt A E J⟩

theorem aa.new {F:Nat→Prop}{w q s:World}(h:aa w q)(j:ae F q s)(t:∀k,F k→w.heap.size≤k):aa w s:=by
 have s:=h.size;refine⟨j.os.trans h.os,j.tape.trans h.tape,j.output.trans h.output,Nat.le_trans s j.size,fun k q=>?_⟩;rw[j.block k (by omega) (fun j=>by have:=t k j;omega),h.block k q]

theorem vx (M:St)(r:Rec):(M.a6 r).n=M.n:=by
 unfold St.a6;split;·rfl
 ·split;·rfl
  ·split;·rfl
   ·rfl

theorem vy (M:St)(r:Rec):(M.a6 r).room=M.room:=by
 unfold St.a6;split;·rfl
 ·split;·rfl
  ·split;·rfl
   ·rfl

theorem vw (M:St)(r:Rec):M.len≤(M.a6 r).len∧(M.a6 r).len≤M.len+1:=by
 unfold St.a6;split;·omega
 ·split;·omega
  ·split;·omega
   ·have:=qH (cs:=M.cs) (gone:=M.gone) (r:=r);unfold St.len;simp only[];omega

open Go.RowKit Go.Shelf

attribute [local go_sem] Oper.semAt_some

def cT:Int→List (Option Rec)→List Int
 |_,[]=>[]
 |i,some _::j=>i::cT (i+1) j
 |i,none::j=>cT (i+1) j

def bS (cs:List (Option Rec)):List Int:=cT 2 cs

theorem mx (i:Int)(a b:List (Option Rec)):cT i (a++b)=cT i a++cT (i+a.length) b:=by
 induction a generalizing i with
 |nil=>simp[cT]
 |cons x a j=>
  have e:i+1+(a.length:Int)=i+((x::a).length:Int):=by rw[List.length_cons];omega
  cases x with
  |none=>show cT (i+1) (a++b)=cT (i+1) a++_;rw[j,e]
  |some r=>show i::cT (i+1) (a++b)=(i::cT (i+1) a)++_;rw[j,e];rfl

theorem v9 {cs:List (Option Rec)}{k:Nat}{r:Rec}(h:cs[k]?=some (some r)):bS (cs.take (k+1))=bS (cs.take k)++[(k:Int)+2]:=by
 obtain⟨q,j⟩:=List.getElem?_eq_some_iff.1 h;unfold bS;rw[List.take_succ_eq_append_getElem q,j,mx,List.length_take,show min k cs.length=k by omega,show(2:Int)+(k:Int)=(k:Int)+2 by omega];rfl

theorem v8 {cs:List (Option Rec)}{k:Nat}(h:cs[k]?=some none):bS (cs.take (k+1))=bS (cs.take k):=by
 obtain⟨q,j⟩:=List.getElem?_eq_some_iff.1 h;unfold bS;rw[List.take_succ_eq_append_getElem q,j,mx];simp[cT]

theorem py (cs:List (Option Rec))(k:Nat):bS (cs.take k) <+: bS cs:=by
 refine⟨cT (2+((cs.take k).length:Int)) (cs.drop k),?_⟩;unfold bS;rw[←mx,List.take_append_drop]

theorem v7 {F:Nat→Prop}{St:World→Prop}{J K:Nat}{cs:List (Option Rec)}{gone:List Int}{Y room:Int}(S:∀t,St t→cO F t J cs gone Y room∧t.cell? ⟨K,0,none⟩=some (.pointer (some ⟨J,0,none⟩))) :
  Iter Tryz.prog 209 #[.pointer (some ⟨K,0,none⟩)] (bS cs) 0 St:=by
 intro l U t W N t t ad L n
 obtain⟨O,t⟩:=S _ (N _ _ L)
 obtain⟨X,cap,t,_⟩:=O.cell
 have t:=O.bx
 refine callsIn_of_wp Tryz.func209 rfl trivial ?_ rfl
 simp only[Tryz.ntmps209,List.size_toArray,List.length_cons,List.length_nil,Nat.reduceAdd,Nat.reduceSub,Array.replicate_succ,Array.replicate_zero,List.push_toArray,List.append_toArray,List.nil_append,List.cons_append]
 gi_wp2
 gi_loopw [11] (fun i wr=>∃k:Nat,k≤cs.length∧i=.int .i64 k∧U (bS (cs.take k)) wr∧W.heap.size≤wr.heap.size)
  (fun i _=>cs.length-(intOf i).toNat)
 case atStart=>exact⟨0,Nat.zero_le _,rfl,L,Nat.le_refl _⟩
 case round=>
  obtain⟨k,a2,rfl,j,T⟩:=hrel;obtain⟨z,t⟩:=S _ (N _ _ j);obtain⟨X,cap,t,A⟩:=z.cell;by_cases aw:k<cs.length
  ·obtain⟨a1,rfl,_,_,E,_⟩:=A (by omega);obtain⟨x,I⟩:∃x,cs[k]?=some x:=⟨_,List.getElem?_eq_getElem aw⟩;have s:=E k x I 7 (by decide);cases x with
   |none=>
    have av:=s.trans (show(bZ none)[7]?=some (.bool false)from rfl);have q:=v8 I;clear z E A s;gi_wp2
    refine⟨fun _ h=>(by cases h),?_⟩;gi_wp2
    go_roundw
    case rel=>exact⟨k+1,by omega,by simp,by rw[q];exact j,T⟩
    case measure=>simp[intOf];omega
   |some r=>
    have av:=s.trans (show(bZ (some r))[7]?=some (.bool true)from rfl);have q:=v9 I;obtain⟨fn,tmps,assign,body,t,am⟩:=ad (n-1) _ ((k:Int)+2) wr j (by rw[←q];exact py cs (k+1)) T;clear z E A s;gi_wp2
    refine⟨fun h=>(by cases h),?_⟩;refine am.mono ?_;rintro e s ⟨_,a3,(⟨rfl,Z⟩|⟨rfl,ab⟩)⟩
    ·gi_wp2
     go_roundw
     case rel=>exact⟨k+1,by omega,by simp,by rw[q];exact Z,by omega⟩
     case measure=>simp[intOf];omega
    ·gi_wp2
     refine bodyPost_ret (results_none rfl _ _ _) rfl ?_;exact⟨⟨_,rfl⟩,.inr ⟨_,by rw[←q];exact py cs (k+1),ab⟩⟩
  ·obtain rfl:k=cs.length:=(by omega);rw[List.take_length]at j;gi_wp2
   go_end0
   exact⟨⟨_,rfl⟩,.inl j⟩

theorem px:∀(cs:List (Option Rec)) (i x:Int),x∈cT i cs↔∃(k:Nat) (r:Rec),cs[k]?=some (some r)∧x=i+k:=by
 intro cs;induction cs with
 |nil=>intro i x;simp[cT]
 |cons c cs s=>
  intro i x;cases c with
  |none=>
   show x∈cT (i+1) cs↔_;rw[s];constructor;·rintro⟨k,r,j,q⟩;exact⟨k+1,r,by simpa using j,by omega⟩
   ·rintro⟨k,r,j,q⟩;cases k with
    |zero=>simp at j
    |succ k=>exact⟨k,r,by simpa using j,by omega⟩
  |some t=>
   show x∈i::cT (i+1) cs↔_;rw[List.mem_cons,s];constructor
   ·rintro(h|⟨k,r,j,q⟩);·exact⟨0,t,rfl,by omega⟩
    ·exact⟨k+1,r,by simpa using j,by omega⟩
   ·rintro⟨k,r,j,q⟩;cases k with
    |zero=>left;omega
    |succ k=>right;exact⟨k,r,by simpa using j,by omega⟩

theorem my:∀(cs:List (Option Rec)) (i:Int),(cT i cs).Pairwise (·<·):=by
 intro cs;induction cs with
 |nil=>intro i;simp[cT]
 |cons c cs j=>
  intro i;cases c with
  |none=>exact j (i+1)
  |some s=>
   show(i::cT (i+1) cs).Pairwise (·<·);rw[List.pairwise_cons];refine⟨fun x q=>?_,j (i+1)⟩;obtain⟨k,r,_,j⟩:=(px cs (i+1) x).1 q;omega

theorem kA {cs:List (Option Rec)}{x:Int}:x∈bS cs↔look cs x≠none:=by
 unfold bS;rw[px];constructor
 ·rintro⟨k,r,q,rfl⟩ h;have:=(gR (cs:=cs) (i:=k) (r:=r)).2 q;rw[show(2:Int)+(k:Int)=(k:Int)+2 by omega,this]at h;cases h
 ·intro h;cases j:look cs x with
  |none=>exact absurd j h
  |some r=>
   obtain⟨s,t,q⟩:=bL j;exact⟨(x-2).toNat,r,q,by omega⟩

theorem pw:∀(cs:List (Option Rec)) (i:Int),(cT i cs).length=(cs.filter Option.isSome).length:=by
 intro cs;induction cs with
 |nil=>intro i;rfl
 |cons c cs j=>
  intro i;cases c with
  |none=>exact j (i+1)
  |some q=>show(cT (i+1) cs).length+1=_;rw[j];rfl

theorem ql:∀{a b:List Int},a.Nodup→(∀x,x∈a→x∈b)→a.length≤b.length:=by
 intro a;induction a with
 |nil=>intro b _ _;exact Nat.zero_le _
 |cons x a z=>
  intro b t q;have s:x∈b:=q x (List.mem_cons_self);have j:=List.nodup_cons.1 t
  have t:=z (b:=b.erase x) j.2 (fun y t=>by
   have z:y≠x:=fun e=>j.1 (e ▸ t)
   exact(List.mem_erase_of_ne z).2 (q y (List.mem_cons_of_mem _ t)))
  have j:=List.length_erase_of_mem s;have j:0<b.length:=List.length_pos_of_mem s;rw[List.length_cons];omega

theorem jN {a:List Int}(h:a.Pairwise (·<·)):a.Nodup:=h.imp (fun j e=>by omega)

def bY (_:St)(l:Int)(lo hi:Edge):(Edge×Int) ⊕ Rec:=if lo=hi then .inl (lo,0)else .inr ⟨1,l,l,lo,hi⟩

def cr (_:St)(l:Int)(lo hi:Edge):(Edge×Int) ⊕ Rec:=if hi.to=0 then .inl (lo,0)else .inr ⟨2,l,l,lo,hi⟩

def aW (M:St)(l:Int)(lo hi:Edge):(Edge×Int) ⊕ Rec:=
 if lo=hi then .inl (lo,0)else match look M.cs lo.to with
  |none=>.inr ⟨3,l,l,lo,hi⟩
  |some r=>if r.I=l+1 then(if r.hi=hi then .inr ⟨3,l,r.J,r.lo,hi⟩else .inr ⟨3,l,l,lo,hi⟩)else .inr ⟨3,l,l,lo,hi⟩

def aZ (M:St)(l:Int)(lo hi:Edge):(Edge×Int) ⊕ Rec:=
 if hi.to=0 then .inl (lo,0)else match look M.cs lo.to with
  |none=>.inr ⟨4,l,l,lo,hi⟩
  |some r=>if lo=hi then(if r.I=l+1 then .inr ⟨4,l,r.J,r.lo,r.hi⟩else .inr ⟨4,l,l,lo,hi⟩)else .inr ⟨4,l,l,lo,hi⟩

def al (M:St)(f l:Int)(lo hi:Edge)(rest:(Edge×Int) ⊕ Rec):(Edge×Int) ⊕ Rec:=
 if l<0∨M.n≤l then .inl (⟨0,0⟩,3)
 else if M.leads f lo (l+1)=false∨M.leads f hi (l+1)=false then .inl (⟨0,0⟩,1)else rest

def dA (M:St):(Edge×Int) ⊕ Rec→Edge | .inl x=>x.1 | .inr r=>ba M 0 r

theorem iY {f l b:Int}{lo hi:Edge}(s:0≤f∧f≤255)(j:0≤l)(A:l≤16)(q:0≤b∧b≤255)(z:lo.ok)(t:hi.ok):(⟨f,l,b,lo,hi⟩:Rec).ok:=
 ⟨s,⟨j,by show l≤255;omega⟩,q,z,t⟩

theorem sY {F:Nat→Prop}{w:World}{s:Nat}{M:St}(h:ag F w s M)(r:Rec)(N:r.ok) :
  Calls Tryz.prog 186 #[.pointer (some ⟨s,0,none⟩),.agg #[.int .u8 r.ad,.int .u8 r.I,.int .u8 r.J,.int .u8 r.lo.tag,.int .u32 r.lo.to,.int .u8 r.hi.tag,.int .u32 r.hi.to]] w fun e w'=>e=.returned (.tuple #[.agg #[.int .u8 (ba M 0 r).tag,.int .u32 (ba M 0 r).to],.int .u8 (M.a7 r)])∧ae F w w'∧ag (au F w w') w' s (M.a6 r):=by
 have K:=fun(j:World) (L:aa w j)=>jQ (h.U L) r N
 by_cases t:M.a7 r=0
 ·have z:ba M 0 r=⟨0,M.bg r⟩:=if_pos t;rw[z,t];rw[t]at K;refine(tq s r (M.bg r) w h.pos h.lt (fun j q=>ag (au F j q) q s (M.a6 r)) K).mono ?_;rintro e w' ⟨rfl,j,q,A,E,I,J⟩;exact⟨rfl,I.after h.lt A E J⟩
 ·have z:ba M 0 r=⟨0,0⟩:=if_neg t;rw[z];refine(tp s r (M.bg r) (M.a7 r) t w h.pos h.lt (fun j q=>ag (au F j q) q s (M.a6 r)) K).mono ?_;rintro e w' ⟨rfl,j,q,A,E,I,J⟩;exact⟨rfl,I.after h.lt A E J⟩

theorem CP {F:Nat→Prop}{w:World}{s:Nat}{M:St}(h:ag F w s M)(r:Rec)(N:r.ok) :
  Calls Tryz.prog 187 #[.pointer (some ⟨s,0,none⟩),.agg #[.int .u8 r.ad,.int .u8 r.I,.int .u8 r.J,.int .u8 r.lo.tag,.int .u32 r.lo.to,.int .u8 r.hi.tag,.int .u32 r.hi.to]] w fun e w'=>e=.returned (.tuple #[.agg #[.int .u8 (ba M 0 r).tag,.int .u32 (ba M 0 r).to],.int .u8 (M.a7 r)])∧ae F w w'∧ag (au F w w') w' s (M.a6 r):=by
 have K:=fun(j:World) (L:aa w j)=>jQ (h.U L) r N
 by_cases t:M.a7 r=0
 ·have z:ba M 0 r=⟨0,M.bg r⟩:=if_pos t;rw[z,t];rw[t]at K;refine(CO s r (M.bg r) w h.pos h.lt (fun j q=>ag (au F j q) q s (M.a6 r)) K).mono ?_;rintro e w' ⟨rfl,j,q,A,E,I,J⟩;exact⟨rfl,I.after h.lt A E J⟩
 ·have z:ba M 0 r=⟨0,0⟩:=if_neg t;rw[z];refine(CN s r (M.bg r) (M.a7 r) t w h.pos h.lt (fun j q=>ag (au F j q) q s (M.a6 r)) K).mono ?_;rintro e w' ⟨rfl,j,q,A,E,I,J⟩;exact⟨rfl,I.after h.lt A E J⟩

def aG (w:World)(a:Option Addr)(ps:List Int):Prop:=∀i x,ps[i]?=some x→∃b off,a=some ⟨b,off,none⟩∧w.cell? ⟨b,off+i,none⟩=some (.int .i64 x)

theorem aG.U {w w':World}{a:Option Addr}{ps:List Int}(h:aG w a ps)(s:aa w w'):aG w' a ps:=fun i x t=>by
 obtain⟨b,off,j,q⟩:=h i x t;exact⟨b,off,j,s.cell q⟩

theorem sk (n:Nat)(h:n<2 ^ 63):IntKind.i64.wrap (n:Int)=(n:Int):=by
 have e:(n:Int)%2 ^ 64=n:=Int.emod_eq_of_lt (by omega) (by omega);simp only[IntKind.wrap,IntKind.bits,IntKind.signed,e];rw[if_neg];simp;omega

theorem sH (j:Int)(s:0≤j)(q:j≤9223372036854775807):bits BinOp.and IntKind.i64 j 1=j%2:=by
 obtain⟨a,rfl⟩:∃a:Nat,j=(a:Int):=⟨j.toNat,by omega⟩;have s:a &&& 1=a%2:=Nat.and_one_is_mod a
 have q:(BitVec.ofInt 64 (a:Int)).toNat=a:=by
  rw[BitVec.ofInt_natCast,BitVec.toNat_ofNat];exact Nat.mod_eq_of_lt (by omega)
 have j:(BitVec.ofInt 64 ((1:Nat):Int)).toNat=1:=by
  rw[BitVec.ofInt_natCast,BitVec.toNat_ofNat]
 show IntKind.i64.wrap ((BitVec.ofInt 64 (a:Int) &&& BitVec.ofInt 64 ((1:Nat):Int)).toNat:Int)=_;rw[BitVec.toNat_and,q,j,s,sk _ (by omega)];omega

theorem qy (a b:Nat)(q:a<2 ^ 62)(s:b<2 ^ 62):bits BinOp.or IntKind.i64 (a:Int) (b:Int)=((a ||| b:Nat):Int):=by
 have j:∀c:Nat,c<2 ^ 62→(BitVec.ofInt 64 (c:Int)).toNat=c:=fun c t=>by
  rw[BitVec.ofInt_natCast,BitVec.toNat_ofNat];exact Nat.mod_eq_of_lt (by omega)
 have t:a ||| b<2 ^ 62:=Nat.or_lt_two_pow q s;show IntKind.i64.wrap ((BitVec.ofInt 64 (a:Int) ||| BitVec.ofInt 64 (b:Int)).toNat:Int)=_;rw[BitVec.toNat_or,j a q,j b s,sk _ (by omega)]

def fY (m:Nat)(l:List Int):Prop:=m<65536∧∀j:Nat,m.testBit j=true↔(j:Int)∈l

theorem fY.nil:fY 0 []:=⟨by decide,fun j=>by simp⟩

theorem fY.add {m:Nat}{l:List Int}{x:Int}(h:fY m l)(j:0≤x)(q:x<16):fY (m ||| 2 ^ x.toNat) (l++[x]):=by
 have j:2 ^ x.toNat<2 ^ 16:=Nat.pow_lt_pow_right (by decide) (by omega);refine⟨Nat.or_lt_two_pow (n:=16) h.1 j,fun q=>?_⟩;rw[Nat.testBit_or,Bool.or_eq_true,h.2 q,List.mem_append,List.mem_singleton,Nat.testBit_two_pow];simp only[decide_eq_true_eq];constructor
 ·rintro(a|a);·exact .inl a
  ·exact .inr (by omega)
 ·rintro(a|a);·exact .inl a
  ·exact .inr (by omega)

theorem fY.hh {m:Nat}{l:List Int}{x:Int}(h:fY m l)(j:0≤x):(bits BinOp.and IntKind.i64 ((m:Int) / 2 ^ x.toNat) 1==1)=decide (x∈l):=by
 have j:=h.1;have j:(0:Int)<2 ^ x.toNat:=Int.pow_pos (by decide);have a0:0≤(m:Int) / 2 ^ x.toNat:=Int.ediv_nonneg (by omega) (by omega);have j:(m:Int) / 2 ^ x.toNat≤m:=Int.ediv_le_self _ (by omega);rw[sH _ a0 (by omega)];have q:=h.2 x.toNat;rw[show((x.toNat:Nat):Int)=x by omega]at q;have e:(m:Int) / 2 ^ x.toNat=((m / 2 ^ x.toNat:Nat):Int):=by push_cast;rfl
 rw[e];have s:m.testBit x.toNat=decide (m / 2 ^ x.toNat%2=1):=Nat.testBit_eq_decide_div_mod_eq;by_cases j:x∈l
 ·have:=q.2 j;rw[s,decide_eq_true_eq]at this;rw[decide_eq_true j,beq_iff_eq];omega
 ·have:¬m / 2 ^ x.toNat%2=1:=fun t=>j (q.1 (by rw[s];exact decide_eq_true t));rw[decide_eq_false j,beq_eq_false_iff_ne];omega

theorem oz {x:Int}(h:x<62):wrap64 (2 ^ x.toNat)=2 ^ x.toNat:=by
 have j:2 ^ x.toNat≤2 ^ 61:=Nat.pow_le_pow_right (by decide) (by omega);have j:(2:Int) ^ x.toNat=((2 ^ x.toNat:Nat):Int):=by push_cast;rfl
 have j:(0:Int)<2 ^ x.toNat:=Int.pow_pos (by decide);unfold wrap64;omega

def ar (ps:List Int):Bool:=decide (ps.length≤16)&&ps.all (fun x=>decide (0≤x∧x<(ps.length:Int)))&&decide ps.Nodup

theorem dm {ps:List Int}:ar ps=true↔(ps.length≤16∧(∀x∈ps,0≤x∧x<(ps.length:Int))∧ps.Nodup):=by
 unfold ar;simp[List.all_eq_true,and_assoc]

theorem fJ {j:Type}{l:List j}{i:Nat}{x:j}(h:l[i]?=some x):l.take (i+1)=l.take i++[x]:=by
 obtain⟨hi,rfl⟩:=List.getElem?_eq_some_iff.1 h;rw[List.take_succ_eq_append_getElem hi]

theorem m8 (a:Option Addr)(cap:Nat)(ps:List Int)(w:World)(h:aG w a ps)(aw:ps.length≤1048576) :
  Calls Tryz.prog 142 #[.slice a ps.length cap] w fun e w'=>e=.returned (.bool (ar ps))∧w=w':=by
 obtain⟨q,S⟩:∃q,q=ps.length:=⟨_,rfl⟩
 rw[←S]at aw ⊢
 have H:=Lib.hid h
 have t:=Lib.hid S
 clear h S
 by_cases S:16<q
 ·have j:ar ps=false:=by
   cases J:ar ps with
   |false=>rfl
   |true=>have:=(dm.1 J).1;have:=t.out;omega
  rw[j];clear j;go_enter Tryz.func142,Tryz.ntmps142
  go_wp2
  go_ret
  exact⟨rfl,rfl⟩
 ·go_enter Tryz.func142,Tryz.ntmps142
  go_wp2
  go_loopg [3,5,11] q (fun gk aw S S wr=>∃(m d:Nat),aw=.int .i64 (m:Int)∧S=.int .i64 (d:Int)∧d+gk=q∧fY m (ps.take d)∧(∀x∈ps.take d,0≤x∧x<(q:Int))∧(ps.take d).Nodup∧w=wr)
  case atStart=>exact⟨0,0,rfl,rfl,by omega,by simpa using fY.nil,by simp,by simp,rfl⟩
  case round=>
   obtain⟨m,d,rfl,rfl,a3,z,E,A,rfl⟩:=hrel;by_cases T:d<q
   ·obtain⟨x,N⟩:∃b,ps[d]?=some b:=⟨_,List.getElem?_eq_getElem (by rw[←t.out];exact T)⟩;obtain⟨b,off,rfl,S⟩:=H.out d x N;have L:x∈ps:=List.mem_of_getElem? N;have W:=Lib.hid N;clear N;by_cases S:x<0
    ·have j:ar ps=false:=by
      cases J:ar ps with
      |false=>rfl
      |true=>have:=((dm.1 J).2.1 x L).1;omega
     have I:=Lib.hid j;clear j L z E A;go_wp2_with fail
     go_ret
     exact⟨by rw[I.out];rfl,rfl⟩
    ·by_cases S:(q:Int)≤x
     ·have j:ar ps=false:=by
       cases J:ar ps with
       |false=>rfl
       |true=>have:=((dm.1 J).2.1 x L).2;have:=t.out;omega
      have I:=Lib.hid j;clear j L z E A;go_wp2_with fail
      go_ret
      exact⟨by rw[I.out];rfl,rfl⟩
     ·have X:=z.hh (x:=x) (by omega);by_cases K:x∈ps.take d
      ·have j:ar ps=false:=by
        cases J:ar ps with
        |false=>rfl
        |true=>
         have:=(dm.1 J).2.2;rw[←List.take_append_drop d ps,List.nodup_append]at this;refine absurd rfl (this.2.2 x K x ?_);rw[List.drop_eq_getElem_cons (by rw[←t.out];exact T)];have:=W.out;rw[List.getElem?_eq_getElem (by rw[←t.out];exact T)]at this;rw[Option.some.inj this];simp
       have I:=Lib.hid j;rw[decide_eq_true K]at X;clear j L z E A K;have a2:x≤63:=(by omega);go_wp2_with fail
       go_ret
       exact⟨by rw[I.out];rfl,rfl⟩
      ·rw[decide_eq_false K]at X;have U:=z.add (x:=x) (by omega) (by omega);have a1:=qy m (2 ^ x.toNat) (by have:=z.1;omega) (Nat.lt_of_lt_of_le (Nat.pow_lt_pow_right (n:=16) (by decide) (by omega)) (by decide));have O:=fJ W.out;rw[←O]at U
       have Z:∀y∈ps.take (d+1),0≤y∧y<(q:Int):=fun y s=>by
        rw[O]at s;rcases List.mem_append.1 s with s|s;·exact E y s
        ·rw[List.mem_singleton]at s;subst s;omega
       have Y:(ps.take (d+1)).Nodup:=by
        rw[O,List.nodup_append];exact⟨A,by simp,fun y s j ab e=>by rw[List.mem_singleton]at ab;subst e;subst ab;exact K s⟩
       have ad:=Lib.hid U;have av:=Lib.hid Z;have am:=Lib.hid Y;push_cast at a1;have j:=oz (x:=x) (by omega);clear z E A U Z Y L K O;have a2:x≤63:=(by omega);go_wp2_with fail
       go_roundg (gk-1)
       case rel=>exact⟨m ||| 2 ^ x.toNat,d+1,rfl,by simp,by omega,ad.out,av.out,am.out,rfl⟩
       case measure=>omega
   ·have j:d=q:=by omega
    have j:ar ps=true:=by
     have q:ps.take d=ps:=List.take_of_length_le (by rw[←t.out];omega);rw[q]at E A;exact dm.2 ⟨by have:=t.out;omega,fun x N=>by have:=E x N;have:=t.out;omega,A⟩
    have I:=Lib.hid j;clear z E A j;go_wp2_with fail
    go_ret
    exact⟨by rw[I.out];rfl,rfl⟩

def bD (w:World)(g:Nat)(ps:List Int):Prop:=∃j:Array Value,w.heap[g]?=some (.cells j 3 (0,0))∧∀(i:Nat) (x:Int),ps[i]?=some x→j[i]?=some (Value.int .i64 x)

theorem bD.cell {w:World}{g:Nat}{ps:List Int}(h:bD w g ps){i:Nat}{x:Int}(s:ps[i]?=some x):w.cell? ⟨g,i,none⟩=some (.int .i64 x):=by
 obtain⟨t,j,q⟩:=h;rw[cell_of_row w g i _ _ _ j];simp only[q i x s]

theorem bD.frozen {w:World}{g:Nat}{ps:List Int}(h:bD w g ps)(i:Nat):w.frozen? ⟨g,i,none⟩=false:=by
 obtain⟨q,j,s⟩:=h;exact frozen_of_row w g i _ _ j

theorem bD.lt {w:World}{g:Nat}{ps:List Int}(h:bD w g ps):g<w.heap.size:=by
 obtain⟨q,j,s⟩:=h;exact aN j

theorem bD.a5 {G:Nat→Prop}{w w':World}{g:Nat}{ps:List Int}(h:bD w g ps)(A:ae G w w')(t:¬G g):bD w' g ps:=by
 have z:=h.lt;obtain⟨j,q,s⟩:=h;exact⟨j,(A.block g z t).trans q,s⟩

theorem bD.U {w w':World}{g:Nat}{ps:List Int}(h:bD w g ps)(j:aa w w'):bD w' g ps:=h.a5 (j.av (fun _=>False)) (fun h=>h)

theorem bD.ea {w:World}{g:Nat}{ps:List Int}(h:bD w g ps):aG w (some ⟨g,0,none⟩) ps:=fun i x j=>⟨g,0,rfl,by rw[Nat.zero_add];exact h.cell j⟩

theorem bD.set {w:World}{g:Nat}{ps:List Int}(h:bD w g ps)(i:Nat)(y:Int)(hi:i<ps.length):bD (w.setCell ⟨g,i,none⟩ (.int .i64 y)) g (ps.set i y):=by
 obtain⟨z,A,s⟩:=h;refine⟨_,Go.heap_setCell_same w g i _ _ (.int .i64 y) A,fun t x j=>?_⟩;rw[Array.getElem?_setIfInBounds];by_cases q:i=t
 ·subst q;have E:=s i ps[i] (by simp[hi]);have I:i<z.size:=(Array.getElem?_eq_some_iff.1 E).1;rw[if_pos rfl,if_pos I];simp[hi]at j;rw[j]
 ·rw[if_neg q];rw[List.getElem?_set_ne q]at j;exact s t x j

theorem nN {w:World}{lo:Nat}{g:Nat}{n cap:Nat}{ps:List Int}(q:w.ownsRow lo 3 1 (.slice (some ⟨g,0,none⟩) n cap) n (ps.map (Value.int .i64))):bD w g ps∧lo≤g:=by
 obtain⟨J,K⟩:=bM q (k:=g) rfl;rcases q.2 with⟨t,_⟩|⟨J,q,s,I,z,A,_,_,K,E⟩
 ·cases t
 ·cases I;refine⟨⟨s,A,fun i x q=>?_⟩,z⟩;have j:(ps.map (Value.int .i64))[i]?=some (.int .i64 x):=by rw[List.getElem?_map,q];rfl
  rw[←E,List.getElem?_take]at j;split at j
  ·rw[Array.getElem?_toList]at j;exact j
  ·cases j

def iH (lo:Nat)(w:World)(a:Option Addr)(ps:List Int):Prop:=ps≠[]→∃g,a=some ⟨g,0,none⟩∧lo≤g∧bD w g ps

theorem iH.ea {lo:Nat}{w:World}{a:Option Addr}{ps:List Int}(h:iH lo w a ps):aG w a ps:=fun i x j=>by
 obtain⟨g,q,_,s⟩:=h (fun e=>by rw[e]at j;simp at j);rw[q];exact s.ea i x j

theorem ij:(Tryz.prog.info? 3).map (fun i=>(i.zero,i.size,i.bytes))=some (some (.int .i64 0),1,8):=by kernel_rfl

theorem yu (w:World)(j:TypeId):(w.alloc (.cells #[] j)).ownsRow w.heap.size j 1 (.slice (some ⟨w.heap.size,0,none⟩) 0 0) 0 []:=
 ⟨rfl,.inr ⟨w.heap.size,0,#[],rfl,Nat.le_refl _,heap_alloc_new w _,Nat.le_refl _,by unfold maxLen;omega,rfl,rfl⟩⟩

theorem mc (a:Option Addr)(cap:Nat)(ps:List Int)(w:World)(h:aG w a ps)(W:ps.length≤1048576) :
  Calls Tryz.prog 54 #[.slice a ps.length cap] w fun e w'=>∃z K,e=.returned (.slice z ps.length K)∧iH w.heap.size w' z ps∧aa w w':=by
 cases a with
 |none=>
  have av:ps=[]:=by
   cases ps with
   |nil=>rfl
   |cons x l=>obtain⟨b,off,N,_⟩:=h 0 x rfl;cases N
  subst av;clear h W;rw[List.length_nil];have am:=fun(I:World)=>Lib.run_eql_slice_nil (P:=Tryz.prog) I 22 3 none 0 cap 0 0 Tryz.underlying22;go_enter Tryz.func54,Tryz.ntmps54
  go_wp2
  go_ret
  exact⟨none,0,rfl,fun t=>absurd rfl t,aa.refl _⟩
 |some J=>
  obtain⟨a4,hi,a1,a2,a3⟩:=info_parts ij
  have T:∀j u,(ps.map (Value.int .i64))[j]?=some u→w.cell? (J.add j)=some u:=fun j u A=>by
   rw[List.getElem?_map,Option.map_eq_some_iff]at A;obtain⟨x,aw,rfl⟩:=A;obtain⟨b,off,N,ad⟩:=h j x aw;cases N
   have ab:(⟨b,off,none⟩:Addr).add j=⟨b,off+j,none⟩:=by
    unfold Addr.add;split
    ·rename_i N;rw[N];rfl
    ·rfl
   rw[ab];exact ad
  obtain⟨q,L⟩:∃q,q=ps.length:=⟨_,rfl⟩;rw[←L]at W ⊢;have X:=Lib.hid T;have S:=Lib.hid L;have Y:0+q≤maxLen:=by unfold maxLen;omega
  clear h T L;have am:=fun(I:World)=>Lib.run_eql_slice_nil (P:=Tryz.prog) I 22 3 (some J) q cap 0 0 Tryz.underlying22;go_enter Tryz.func54,Tryz.ntmps54
  go_wp2_with (first
   |(at_builtin;refine si rfl _ _ 22 rfl w.heap.size 3 a4 (.int .i64 0) 1 8 Tryz.underlying22 hi a1 a2 a3 rfl (by decide) (.slice (some ⟨w.heap.size,0,none⟩) 0 0) 0 [] rfl (yu w 3) J q cap (ps.map (Value.int .i64)) rfl (by rw[List.length_map,←S.out,Nat.mul_one]) (fun j u A=>((aa.refl w).alloc _).cell (X.out j u A)) (fun u E=>by rw[List.mem_map]at E;obtain⟨x,_,rfl⟩:=E;rfl) Y (by omega) (by simp) ?_;intro L a7 O s I)
   |fail)
  obtain⟨z,K,rfl,Z⟩:=eO O;go_wp2_with fail
  go_ret
  refine⟨z,K,by simp,fun t=>?_,?_⟩
  ·obtain⟨g,rfl⟩:=Z (by rw[Nat.zero_add,S.out];intro e;exact t (List.length_eq_zero_iff.1 e));rw[List.nil_append]at O;obtain⟨a5,a6⟩:=nN O;exact⟨g,rfl,a6,a5⟩
  ·have E:ae (fun k=>k=w.heap.size) (w.alloc (.cells #[] 3)) a7:=⟨s.os,s.tape,s.output,s.size,fun k U t=>s.block k U (fun e=>by simp[Value.ownBlock]at e;exact t e)⟩;exact((((aa.refl w).alloc (.cells #[] 3)).av _).a' E).U (fun k U e=>by omega)

def ji (ps qs:List Int):Prop:=qs.length=ps.length∧∀(i:Nat) (x:Int),ps[i]?=some x→qs[x.toNat]?=some (i:Int)

theorem qP {w:World}{j n:Nat}(h:w.ownsRow j 3 1 (.slice (some ⟨j,0,none⟩) n n) n (madeCells (Value.int .i64 0).cells (n*1)).toList):bD w j (List.replicate n 0):=by
 have e:(madeCells (Value.int .i64 0).cells (n*1)).toList=(List.replicate n (0:Int)).map (Value.int .i64):=by
  rw[List.map_replicate,Nat.mul_one];simp[madeCells,Value.cells,Nat.mod_one];rw[List.map_const',List.length_range]
 rw[e]at h;exact(nN h).1

theorem wJ (a:Option Addr)(cap:Nat)(ps:List Int)(w:World)(h:aG w a ps)(S:ps.length≤1048576) :
  Calls Tryz.prog 82 #[.slice a ps.length cap] w fun e w'=>aa w w' ∧
   if ar ps=true then ∃qs,e=.returned (.tuple #[.slice (some ⟨w.heap.size,0,none⟩) ps.length ps.length,.bool true])∧bD w' w.heap.size qs∧ji ps qs
   else e=.returned (.tuple #[.slice none 0 0,.bool false]):=by
 have z:=fun Z (a6:aa w Z)=>m8 a cap ps Z (h.U a6) S
 obtain⟨j,s⟩:∃j,j=ps.length:=⟨_,rfl⟩
 cases J:ar ps with
 |false=>
  simp only[Bool.false_eq_true,if_false];rw[J,←s]at z;rw[←s];have O:=Lib.hid z;clear z h S J s;go_enter Tryz.func82,Tryz.ntmps82
  go_wp2_with (first|(go_at_call 142;refine(O.out _ (by(exact kp))).mono ?_;rintro e w1 ⟨rfl,rfl⟩)|fail)
  go_ret2
  exact⟨aa.refl _,rfl⟩
 |true=>
  simp only[if_true];obtain⟨Z,T,am⟩:=dm.1 J;rw[J,←s]at z;rw[←s]at S Z T ⊢;have O:=Lib.hid z;have N:=Lib.hid s;have H:=Lib.hid h;have X:=Lib.hid T;have a3:=Lib.hid am;obtain⟨bb,a7,be,bg,bi⟩:=info_parts ij;clear z h J s T am;go_enter Tryz.func82,Tryz.ntmps82
  go_wp2_with (first
   |(go_at_call 142;refine(O.out _ (by(exact kp))).mono ?_;rintro e w1 ⟨rfl,rfl⟩)
   |(at_make;refine wpList_make_full _ rfl _ _ 22 rfl w.heap.size 3 bb (.int .i64 0) 1 Tryz.underlying22 a7 be bg .i64 .i64 (j:Int) (j:Int) j rfl rfl rfl rfl (by rw[bi];omega) (by unfold maxLen;omega) (by simp) ?_;intro w1 av A)
   |fail)
  have W:=Lib.hid (qP av);have ad:aa w w1:=⟨A.os,A.tape,A.output,A.size,fun i hi=>A.block i hi (by simp)⟩;have a2:=Lib.hid ad;have bn:=W.out.lt;clear av A ad;go_loopg [5,6,15] j (fun gk s s s wr=>∃(d:Nat) (qs:List Int),d+gk=j∧s=.int .i64 (d:Int)∧qs.length=j∧bD wr w.heap.size qs∧(∀i x,i<d→ps[i]?=some x→qs[x.toNat]?=some (i:Int))∧ae (fun s=>s=w.heap.size) w1 wr)
  case atStart=>exact⟨0,_,by omega,rfl,by simp,W.out,fun i x hi=>by omega,ae.refl _ _⟩
  case round=>
   obtain⟨d,qs,bp,rfl,J,z,A,s⟩:=hrel;have K:=Lib.hid z;have I:=Lib.hid J;have U:=Lib.hid A;have a1:=Lib.hid s;have aw:aa w wr:=a2.out.new s (fun k O=>by omega);clear z J A s;by_cases a8:d<j
   ·obtain⟨x,t⟩:∃b,ps[d]?=some b:=⟨_,List.getElem?_eq_getElem (by rw[←N.out];exact a8)⟩;obtain⟨b,off,rfl,ab⟩:=H.out d x t;have s:=aw.cell ab;obtain⟨s,z⟩:=X.out x (List.mem_of_getElem? t);have Y:=Lib.hid t;obtain⟨q,rfl⟩:∃q:Nat,x=(q:Int):=⟨x.toNat,by omega⟩;obtain⟨y,s⟩:∃b,qs[q]?=some b:=⟨_,List.getElem?_eq_getElem (by rw[I.out];omega)⟩;have z:=K.out.cell s;have z:=K.out.frozen q;clear ab t s;go_wp2_with fail
    go_roundg (gk-1)
    case rel=>
     refine⟨d+1,qs.set q (d:Int),by omega,by simp,by rw[List.length_set,I.out],?_,fun i L hi E=>?_,?_⟩;·exact K.out.set q (d:Int) (by rw[I.out];omega)
     ·by_cases hid:i=d
      ·subst hid;rw[Y.out]at E;cases E;rw[Int.toNat_natCast,List.getElem?_set_self (by rw[I.out];omega)]
      ·have a':L.toNat≠q:=fun e=>by
        have s:=(X.out L (List.mem_of_getElem? E)).1;have s:L=(q:Int):=(by omega);rw[s]at E;obtain⟨bn,a5⟩:=List.getElem?_eq_some_iff.1 E;obtain⟨s,q⟩:=List.getElem?_eq_some_iff.1 Y.out;exact hid (List.getElem_inj a3.out |>.1 (a5.trans q.symm))
       rw[List.getElem?_set_ne (fun e=>a' e.symm)];exact U.out i L (by omega) E
     ·exact a1.out.setCell (.inl rfl) _
    case measure=>omega
   ·have q:d=j:=(by omega);have j:ji ps qs:=⟨by rw[I.out,N.out],fun i x t=>U.out i x (by have:=(List.getElem?_eq_some_iff.1 t).1;have:=N.out;omega) t⟩;have a4:=Lib.hid j;clear q j;go_wp2_with fail
    go_ret2
    exact⟨aw,qs,rfl,K.out,a4.out⟩

structure bC (F:Nat→Prop)(w:World)(ob:Nat)(ps:List Int):Prop where
 h0:∃va vc lg lc qs,w.heap[ob]?=some (.cells #[.slice va ps.length vc,.slice (some ⟨lg,0,none⟩) ps.length lc] 117 (0,0))∧ji ps qs ∧
  (ps≠[]→∃vg,va=some ⟨vg,0,none⟩∧bD w vg ps∧F vg∧vg≠lg)∧bD w lg qs∧F lg
 own:F ob
 lt:∀k,F k→k<w.heap.size
 perm:ar ps=true

theorem bC.a5 {F G:Nat→Prop}{w t:World}{s:Nat}{ps:List Int}(h:bC F w s ps)(j:ae G w t)(q:∀k,F k→¬G k):bC F t s ps:=by
 obtain⟨⟨T,U,S,O,qs,z,J,K,L,A⟩,t,E,I⟩:=h;refine⟨⟨T,U,S,O,qs,(j.block s (aN z) (q _ t)).trans z,J,fun N=>?_,L.a5 j (q _ A),A⟩,t,fun k s=>Nat.lt_of_lt_of_le (E k s) j.size,I⟩;obtain⟨E,t,z,s,A⟩:=K N;exact⟨E,t,z.a5 j (q _ s),s,A⟩

theorem bC.U {F:Nat→Prop}{w j:World}{q:Nat}{ps:List Int}(h:bC F w q ps)(s:aa w j):bC F j q ps:=h.a5 (s.av (fun _=>False)) (fun _ _ h=>h)

theorem yq (a:Option Addr)(cap:Nat)(ps:List Int)(w:World)(h:aG w a ps)(J:ps.length≤1048576) :
  Calls Tryz.prog 35 #[.slice a ps.length cap] w fun e w'=>aa w w' ∧
   if ar ps=true then ∃t F,e=.returned (.tuple #[.pointer (some ⟨t,0,none⟩),.int .u8 0])∧bC F w' t ps∧(∀k,F k→w.heap.size≤k)
   else e=.returned (.tuple #[.pointer none,.int .u8 1]):=by
 have s:=fun t (L:aa w t)=>wJ a cap ps t (h.U L) J
 have E:=fun t (L:aa w t)=>mc a cap ps t (h.U L) J
 obtain⟨q,j⟩:∃q,q=ps.length:=⟨_,rfl⟩
 cases z:ar ps with
 |false=>
  simp only[Bool.false_eq_true,if_false];simp only[z,Bool.false_eq_true,if_false,←j]at s;rw[←j];have K:=Lib.hid s;clear s h J z j E;go_enter Tryz.func35,Tryz.ntmps35
  go_wp2_with (first|(go_at_call 82;refine(K.out _ (by(exact kp))).mono ?_;rintro e w1 ⟨I,rfl⟩)|fail)
  go_ret2
  exact⟨I,rfl⟩
 |true=>
  simp only[if_true];simp only[z,if_true,←j]at s;rw[←j]at E ⊢;have K:=Lib.hid s;have Y:=Lib.hid E;have X:=Lib.hid z;have Z:=Lib.hid j;clear s h J z j E;go_enter Tryz.func35,Tryz.ntmps35
  go_wp2_with (first|(go_at_call 82;refine(K.out _ (by(exact kp))).mono ?_;rintro e w1 ⟨S,qs,rfl,T,ad⟩)|fail)
  have j:=T.lt;refine(Y.out _ S).mono ?_;rintro e A ⟨U,W,rfl,am,N⟩;go_wp2_with fail
  go_ret2
  have O:aa A (A.alloc (.cells #[.slice U q W,.slice (some ⟨w.heap.size,0,none⟩) q q] 117)):=(aa.refl _).alloc _;have j:=N.size;refine⟨(S.trans N).trans O,A.heap.size,fun k=>w.heap.size≤k∧k≤A.heap.size,rfl,⟨⟨U,W,w.heap.size,q,qs,?_,ad,fun ab=>?_,(T.U N).U O,by omega⟩,by omega,fun k I=>by simp;omega,X.out⟩,fun k I=>I.1⟩
  ·rw[←Z.out];exact heap_alloc_new A _
  ·obtain⟨s,q,t,j⟩:=am ab;have:=j.lt;exact⟨s,q,j.U O,by omega,by omega⟩

theorem aa.a2 {w w':World}(h:aa w w'){a:Addr}(q:a.block<w.heap.size)(j:w.frozen? a=false):w'.frozen? a=false:=(Below.frozen h q).trans j

open Go

def kG (ops:Array Oper)(n:Nat):Bool:=
 (List.range ops.size).all fun j=>decide (j≤n)||(List.range j).any fun q=>decide (n≤q)&&Region.waitsFor .any ops j q

section
variable {P:Program}{ops:Array Oper}{w:World}

theorem yd {n:Nat}{K:Array Bool}(am:Region.sinkB .any ops n=true)(Y:kG ops n=true)(S:HeadInv .any ops n K) :
  ∀(d i:Nat),n-i=d→i<n→K.getD i true=false→∀j∈Region.ready .any ops K,j<n:=by
 intro d
 induction d using Nat.strongRecOn with
 |_ d aw=>
  intro i ad hi X j W;refine Classical.byContradiction fun ab=>?_;obtain⟨_,o,O,T⟩:=mem_ready.1 W;have av:j<ops.size:=(Array.getElem?_eq_some_iff.1 O).1;rcases Nat.lt_or_ge n j with ad|ad
  ·have z:=List.all_eq_true.1 Y j (List.mem_range.2 av);rw[Bool.or_eq_true]at z;rcases z with z|z
   ·have:=of_decide_eq_true z;omega
   ·obtain⟨t,N,s⟩:=List.any_eq_true.1 z;rw[Bool.and_eq_true]at s;obtain⟨L,I,e,E,A,J⟩:=Region.waitsFor_spec s.2;obtain rfl:L=o:=Option.some.inj (I.symm.trans O);have q:=T e E A;rw[J,getD_both (S.tail t (of_decide_eq_true s.1) (by have:=List.mem_range.1 N;omega))]at q;cases q
  ·obtain rfl:j=n:=(by omega);obtain⟨t,N,s⟩:=List.any_eq_true.1 (List.all_eq_true.1 am i (List.mem_range.2 hi));rw[Bool.and_eq_true]at s;have z:=of_decide_eq_true s.1;obtain⟨L,I,e,E,A,J⟩:=Region.waitsFor_spec s.2;have s:=List.mem_range.1 N;by_cases Z:t=j
   ·subst Z;obtain rfl:L=o:=Option.some.inj (I.symm.trans O);have q:=T e E A;rw[J,getD_both X]at q;cases q
   ·rcases U:K.getD t false with _|_;·exact ab (aw (j-t) (by omega) t rfl (by omega) (getD_in (by rw[S.size];omega) U) j W)
    ·have q:=S.closed t L I U e E A;rw[J,getD_both X]at q;cases q

theorem po {n i:Nat}{A:Oper}{v:Value}{I:Array Bool→Act→Prop}(hi:ops[i]?=some A)(K:Region.noSelect ops=true)(Z:Region.sinkB .any ops n=true)(O:kG ops n=true)(U:i<n)
  (S:∀q a,I q a→∀j∈Region.ready .any ops q,n≤j) :
  ∀(f:Nat) (q:Array Bool) (a:Act),HeadInv .any ops n q →
   (∀j s,ops[j]?=some s→j≠i→q.getD j true=false→(∀e∈s.after,Region.binds .any e=true→e.on≠i)→A.apart ops s=true) →
   i∈Region.ready .any ops q→YieldsAt P ops w A v a →
   wpAnyL P .any ops w n I f (q.setIfInBounds i true) (a.put A.dst v)→wpAnyL P .any ops w n I (f+1) q a
 |f,q,a,am,T,E,ad,H=>by
  have ab:=(mem_ready.1 E).1;refine⟨fun h=>(by rw[h]at E;cases E),fun j z=>?_⟩;have X:=yd Z O am _ i rfl U ab j z;refine⟨X,?_⟩;by_cases t:j=i
  ·subst t;exact ad.stOp hi H
  ·cases f with
   |zero=>
    have:=S _ _ H j (ready_mono z t);omega
   |succ f=>
    obtain⟨Y,s,J,I⟩:=mem_ready.1 z
    have a2:∀e∈s.after,Region.binds .any e=true→e.on≠i:=fun e aw av a1=>by
     have L:=I e aw av;rw[a1,getD_both ab]at L;cases L
    have I:=stOp_put J (T j s J t Y a2) (fun cs b=>Region.noSelect_spec K i A cs b hi) (fun cs b=>Region.noSelect_spec K j s cs b J) ad (H.2 j (ready_mono z t)).2;refine stOp_mono (fun s N=>po hi K Z O U S f (q.setIfInBounds j true) s (am.set z X) ?_ (ready_mono E (Ne.symm t)) N.1 ?_) I
    ·intro k ok q s a3 z;refine T k ok q s ?_ z;by_cases W:j=k
     ·subst W;exact Y
     ·rwa[getD_set_ne true W]at a3
    ·rw[Array.setIfInBounds_comm _ _ t];exact N.2

def jC (ops:Array Oper)(n:Nat)(q:Array Bool):Nat→Nat→Array Bool→Bool
 |0,_,j=>decide (j=q)&&(Region.ready .any ops q).all (fun s=>decide (n≤s))
 |f+1,k,j=>(Region.ready .any ops j).contains k&&Region.free .any ops j k&&jC ops n q f (k+1) (j.setIfInBounds k true)

theorem pq {n:Nat}{A:Array Bool}{G:Act→Prop}(S:Region.noSelect ops=true)(O:Region.sinkB .any ops n=true)(I:kG ops n=true) :
  ∀(l:List Oper) (k:Nat) (s:Array Bool) (a:Act),(∀j,j<l.length→l[j]?=ops[k+j]?)→k+l.length=n→HeadInv .any ops n s→jC ops n A l.length k s=true →
   wpStill P ops w G l a→wpAnyL P .any ops w n (fun U E=>(U=A∧∀j∈Region.ready .any ops A,n≤j)∧G E) l.length s a
 |[],k,s,a,_,_,_,q,h=>by
  simp only[List.length_nil,jC,Bool.and_eq_true,decide_eq_true_eq]at q;exact⟨⟨q.1,fun j t=>of_decide_eq_true (List.all_eq_true.1 q.2 j t)⟩,h⟩
 |o::l,k,s,a,L,J,T,q,h=>by
  have z:ops[k]?=some o:=by simpa using(L 0 (by simp)).symm
  simp only[List.length_cons,jC,Bool.and_eq_true]at q;have K:k<n:=by simp only[List.length_cons]at J;omega
  have N:k∈Region.ready .any ops s:=by simpa using q.1.1
  have X:stOp P ops w k (wpStill P ops w G l) a:=by
   unfold stOp;simp only[z];exact h
  obtain⟨v,Y,W⟩:=yieldsAt_of_stOp z X;refine po z S O I K (fun U E A j t=>?_) l.length s a T (Region.free_spec z q.1.2) N Y ?_
  ·rw[A.1.1]at t;exact A.1.2 j t
  ·exact pq S O I l (k+1) _ _ (fun j t=>by have:=L (j+1) (by simp;omega);simpa[Nat.add_assoc,Nat.add_comm 1 j]using this) (by simp only[List.length_cons]at J;omega) (T.set N K) q.2 W

def pn (ops:Array Oper)(n:Nat)(j:Array Bool):Bool:=
 Region.noSelect ops&&decide (n<ops.size)&&Region.sinkB .any ops n&&kG ops n&&jC ops n j n 0 (Array.replicate ops.size false)

theorem jg {id:Nat}{Q:Exit→Act→World→Prop}{a:Act}{l:List Oper}(n:Nat)(q:Array Bool)(K:P.follows .mixedOrders=true)(t:pn l.toArray n q=true)
  (h:wpStill P l.toArray w.drew (fun s=>wpAny P .any l.toArray Q (l.length-n) q s w.drew) (l.take n) a):(Code.region id l.toArray true).wp P Q a w:=by
 simp only[pn,Bool.and_eq_true,decide_eq_true_eq]at t
 obtain⟨⟨⟨⟨N,q⟩,L⟩,E⟩,J⟩:=t
 have t:n<l.length:=by simpa using q
 have j:(l.take n).length=n:=by simp;omega
 have O:HeadInv .any l.toArray n (Array.replicate l.toArray.size false):=
  ⟨by simp,fun A q _ z=>(by rw[getD_replicate_false]at z;cases z),fun t _ q=>getD_in (by simpa using q) (getD_replicate_false _ _)⟩
 have H:=pq N L E (l.take n) 0 (Array.replicate l.toArray.size false) a (fun A q=>by
  have I:A<n:=by rw[j]at q;exact q
  simp[I]) (by simpa using j) O (by rw[j];exact J) h
 refine wp_region_any K ?_
 have:=wpAny_of_head (Q':=Q) (g:=l.length-n) (fun q s q=>by rw[q.1.1];exact q.2) _ _ _ H
 rw[j,show n+(l.length-n)=l.toArray.size by simp;omega]at this
 exact this

end

theorem gM (x y:Edge)(h:x=y)(j:World):(binOp .eql 52 (.agg #[.int .u8 x.tag,.int .u32 x.to]) (.agg #[.int .u8 y.tag,.int .u32 y.to])).run Tryz.prog j=.ok (.bool true) j:=by rw[ll];simp[h]

theorem fR (x y:Edge)(h:x≠y)(j:World):(binOp .eql 52 (.agg #[.int .u8 x.tag,.int .u32 x.to]) (.agg #[.int .u8 y.tag,.int .u32 y.to])).run Tryz.prog j=.ok (.bool false) j:=by rw[ll];simp[h]

end Go.Proofs.YtafkamlhimkbmaaGreat
