/-
  Plain definitions and laws: edges, records, which of them may be. No program in sight.
-/
import Derived.WalkKit
import Derived.WalkSmall
import Derived.Deep.Draws
import Derived.Deep.RegionLaw
import Derived.BigQuiet
namespace Go.Proofs.YtafkamlhimkbmaaGreat
set_option maxRecDepth 1000000
set_option maxHeartbeats 8000000
set_option linter.unusedSimpArgs false
set_option linter.unusedVariables false

structure Edge where
 tag:Int
 to:Int

structure Rec where
 ad:Int
 I:Int
 J:Int
 lo:Edge
 hi:Edge

instance:DecidableEq Edge:=fun a b=>decidable_of_iff (a.tag=b.tag∧a.to=b.to) (by cases a;cases b;simp)

instance:DecidableEq Rec:=fun a b=>decidable_of_iff (a.ad=b.ad∧a.I=b.I∧a.J=b.J∧a.lo=b.lo∧a.hi=b.hi) (by cases a;cases b;simp)

def Edge.ok (e:Edge):Prop:=(0≤e.tag∧e.tag≤255)∧(0≤e.to∧e.to≤4294967295)

structure Rec.ok (r:Rec):Prop where
 ad:0≤r.ad∧r.ad≤255
 I:0≤r.I∧r.I≤255
 J:0≤r.J∧r.J≤255
 lo:r.lo.ok
 hi:r.hi.ok

def Edge.zero:Edge:=⟨0,0⟩

def Rec.zero:Rec:=⟨0,0,0,⟨0,0⟩,⟨0,0⟩⟩

def bG (f:Int):Bool:=decide (1≤f)&&decide (f≤5)

def fT (n:Int):Bool:=decide (0≤n)&&decide (n≤16)

def eY (f:Int):Bool:=f==3||f==4

def dY (f:Int)(e:Edge)(l n:Int):Bool:=
 if !bG f||!fT n||decide (l<0)||decide (n<l)then false
 else if f != 5||e.to==0 then e.tag==0
 else decide (l≤e.tag)&&decide (e.tag≤n)

def gU (r:Rec)(n:Int):Bool:=
 if !bG r.ad||!fT n||decide (r.J<r.I)||decide (n≤r.J)||r.I != r.J&&!eY r.ad then false
 else if !dY r.ad r.lo (r.J+1) n||!dY r.ad r.hi (r.J+1) n then false
 else if r.ad==2||r.ad==4 then r.hi.to != 0
 else !(r.lo.tag==r.hi.tag&&r.lo.to==r.hi.to)

open Go.RowKit

def aa (w w':World):Prop:=Below w.heap.size w w'

theorem aa.refl (w:World):aa w w:=Below.refl _ _

theorem aa.trans {a b c:World}(h:aa a b)(k:aa b c):aa a c:=Below.trans h (Below.mono k h.size)

theorem aa.alloc {a b:World}(h:aa a b)(o:Obj):aa a (b.alloc o):=Below.alloc h h.size o

theorem aa.drew {a b:World}(h:aa a b):aa a b.drew:=Below.drew h

theorem aa.drewN {a b:World}(h:aa a b)(n:Nat):aa a (b.drewN n):=below_drewN h n

theorem aa.setCell {a b:World}(h:aa a b){p:Addr}(j:a.heap.size≤p.block)(u:Value):aa a (b.setCell p u):=Below.setCell h j u

theorem aa.cells {j w1:World}(q:aa j w1):(∀b o,b<j.heap.size→w1.cell? ⟨b,o,none⟩=j.cell? ⟨b,o,none⟩)∧(∀b o,b<j.heap.size→w1.frozen? ⟨b,o,none⟩=j.frozen? ⟨b,o,none⟩):=
 ⟨fun b o h=>Below.cell q (p:=⟨b,o,none⟩) h,fun b o h=>Below.frozen q (p:=⟨b,o,none⟩) h⟩

theorem aD {w:World}{a:Addr}{v:Value}(h:w.cell? a=some v):a.block<w.heap.size:=World.block_lt_of_cell? w a h

theorem aa.cell {w w':World}(h:aa w w'){a:Addr}{v:Value}(j:w.cell? a=some v):w'.cell? a=some v:=(Below.cell h (aD j)).trans j

theorem aN {w:World}{k:Nat}{o:Obj}(h:w.heap[k]?=some o):k<w.heap.size:=lt_of_block h

theorem aa.heap {w w':World}(h:aa w w'){k:Nat}{o:Obj}(j:w.heap[k]?=some o):w'.heap[k]?=some o:=(h.block k (aN j)).trans j

structure ae (F:Nat→Prop)(w w':World):Prop where
 os:w'.os=w.os
 tape:w'.tape=w.tape
 output:w'.output=w.output
 size:w.heap.size≤w'.heap.size
 block:∀k,k<w.heap.size→¬F k→w'.heap[k]?=w.heap[k]?

theorem aa.av {w w':World}(h:aa w w')(F:Nat→Prop):ae F w w':=⟨h.os,h.tape,h.output,h.size,fun k j _=>h.block k j⟩

theorem ae.refl (F:Nat→Prop)(w:World):ae F w w:=⟨rfl,rfl,rfl,Nat.le_refl _,fun _ _ _=>rfl⟩

def au (F:Nat→Prop)(w w':World):Nat→Prop:=fun k=>F k∨(w.heap.size≤k∧k<w'.heap.size)

theorem ae.trans {F:Nat→Prop}{a b c:World}(h:ae F a b)(k:ae (au F a b) b c):ae F a c:=
 ⟨k.os.trans h.os,k.tape.trans h.tape,k.output.trans h.output,Nat.le_trans h.size k.size,fun i hi q=>
  (k.block i (Nat.lt_of_lt_of_le hi h.size) (fun j=>by rcases j with j|j;exact q j;omega)).trans (h.block i hi q)⟩

theorem ae.a' {F:Nat→Prop}{a b c:World}(h:ae F a b)(k:ae F b c):ae F a c:=
 ⟨k.os.trans h.os,k.tape.trans h.tape,k.output.trans h.output,Nat.le_trans h.size k.size,fun i hi j=>
  (k.block i (Nat.lt_of_lt_of_le hi h.size) j).trans (h.block i hi j)⟩

theorem ae.mono {F G:Nat→Prop}{w w':World}(h:ae F w w')(s:∀k,k<w.heap.size→F k→G k):ae G w w':=
 ⟨h.os,h.tape,h.output,h.size,fun k j t=>h.block k j (fun q=>t (s k j q))⟩

theorem ae.U {F:Nat→Prop}{w w':World}(h:ae F w w')(q:∀k,k<w.heap.size→¬F k):aa w w':=
 ⟨h.os,h.tape,h.output,h.size,fun k j=>h.block k j (q k j)⟩

theorem ae.setCell {F:Nat→Prop}{a b:World}(h:ae F a b){p:Addr}(hp:F p.block∨a.heap.size≤p.block)(u:Value):ae F a (b.setCell p u):=
 ⟨h.os,h.tape,h.output,by simpa[World.setCell]using h.size,fun k q j=>by
  rw[Below.heap_setCell _ _ _ _ (fun e=>by subst e;rcases hp with hp|hp;exact j hp;omega)];exact h.block k q j⟩

theorem ae.alloc {F:Nat→Prop}{a b:World}(h:ae F a b)(o:Obj):ae F a (b.alloc o):=
 ⟨h.os,h.tape,h.output,by have:=h.size;simp;omega,fun k j q=>by
  rw[Below.heap_alloc _ _ _ (Nat.lt_of_lt_of_le j h.size)];exact h.block k j q⟩

theorem ae.drewN {F:Nat→Prop}{a b:World}(h:ae F a b)(n:Nat):ae F a (b.drewN n):=⟨h.os,h.tape,h.output,h.size,h.block⟩

theorem ae.drew {F:Nat→Prop}{a b:World}(h:ae F a b):ae F a b.drew:=⟨h.os,h.tape,h.output,h.size,h.block⟩

theorem ae.cy {F:Nat→Prop}{a b c:World}{row:Option Nat}(h:ae F a b)(j:b.grownBy c row)(q:∀k,row=some k→F k∨a.heap.size≤k):ae F a c:=
 ⟨j.os.trans h.os,j.tape.trans h.tape,j.output.trans h.output,Nat.le_trans h.size j.size,fun k t s=>
  (j.block k (Nat.lt_of_lt_of_le t h.size) (fun e=>by rcases q k e.symm with q|q;exact s q;omega)).trans (h.block k t s)⟩

theorem ae.br {F:Nat→Prop}{w j:World}(h:ae F w j){q:Nat}{e:TypeId}{size:Nat}{v:Value}{n:Nat}{xs:List Value}
  (E:∀k,v.ownBlock=some k→¬F k) (t:w.ownsRow q e size v n xs):j.ownsRow q e size v n xs:=by
 refine⟨t.1,?_⟩
 rcases t.2 with I|⟨g,cap,z,rfl,A,s,rest⟩
 ·exact .inl I
 ·refine .inr ⟨g,cap,z,rfl,A,?_,rest⟩;rw[h.block g (aN s) (E g rfl)];exact s

theorem aa.br {w j:World}(h:aa w j){q:Nat}{e:TypeId}{size:Nat}{v:Value}{n:Nat}{xs:List Value}
  (s:w.ownsRow q e size v n xs):j.ownsRow q e size v n xs:=ae.br (h.av (fun _=>False)) (fun _ _ h=>h) s

theorem qB {w:World}{j:Nat}{e:TypeId}{size:Nat}{v:Value}{n:Nat}{xs:List Value}(q:w.ownsRow j e size v n xs)(s:0<n) :
  ∃g cap,v=.slice (some ⟨g,0,none⟩) n cap:=by
 rcases q.2 with⟨_,h⟩|⟨g,cap,_,h,_⟩
 ·omega
 ·exact⟨g,cap,h⟩

theorem eO {w:World}{j:Nat}{e:TypeId}{size:Nat}{v:Value}{n:Nat}{xs:List Value}(q:w.ownsRow j e size v n xs) :
  ∃a cap,v=.slice a n cap∧(n≠0→∃g,a=some ⟨g,0,none⟩):=by
 rcases q.2 with⟨h,j⟩|⟨g,cap,_,h,_⟩
 ·exact⟨none,0,by rw[h,j],fun h=>(h j).elim⟩
 ·exact⟨_,cap,h,fun _=>⟨g,rfl⟩⟩

theorem gO {w w':World}{row:Option Nat}(j:w.grownBy w' row){b o:Nat}{v:Value}(q:row≠some b)(h:w.cell? ⟨b,o,none⟩=some v):w'.cell? ⟨b,o,none⟩=some v:=
 j.cell h (fun e=>q e.symm)

theorem mr {w w':World}{row:Option Nat}(q:w.grownBy w' row){b o:Nat}(j:b<w.heap.size)(s:row≠some b)(h:w.frozen? ⟨b,o,none⟩=false):w'.frozen? ⟨b,o,none⟩=false:=
 (World.frozen?_of_block (a:=⟨b,o,none⟩) (q.block b j (fun e=>s e.symm))).trans h

theorem ez (w:World)(cs:Array Value)(t:TypeId)(g:Nat)(s:g=w.heap.size):∀j u,cs.toList[j]?=some u→(w.alloc (.cells cs t)).cell? ((⟨g,0,none⟩:Addr).add j)=some u:=by
 subst s;intro j u h;have q:(⟨w.heap.size,0,none⟩:Addr).add j=⟨w.heap.size,j,none⟩:=by unfold Addr.add;split<;>simp_all
 rw[q,World.cell?_alloc_new];simpa using h

theorem l7 (w:World)(cs:Array Value)(q:TypeId)(g:Nat)(s:g=w.heap.size):∀j u,cs.toList[j]?=some u→(w.alloc (.cells cs q)).drew.cell? ((⟨g,0,none⟩:Addr).add j)=some u:=ez w cs q g s

theorem World.c5 (w:World)(n:Nat):(w.drewN n).heap.size=w.heap.size:=rfl

theorem World.a3 (w:World):w.drew.heap.size=w.heap.size:=rfl

theorem World.size_setCell (w:World)(a:Addr)(v:Value):(w.setCell a v).heap.size=w.heap.size:=by simp[World.setCell]

theorem World.size_alloc (w:World)(o:Obj):(w.alloc o).heap.size=w.heap.size+1:=by simp

theorem zJ {P:Program}(w:World)(K:Nat)(s E e:TypeId)(i:TypeInfo)(J:Value)(size bytes:Nat)(O:P.underlying s=some (.slice e))(hi:P.info? e=some i)(T:i.zero=some J)
  (Z:i.size=size) (Y:i.bytes=bytes) (a5:J.cells.size=size) (a4:0<size)
  (v:Value) (n:Nat) (xs:List Value) (N:w.ownsRow K e size v n xs)
  (a:Addr) (m c:Nat) (news:List Value) (t:news.length=m*size) (L:∀A u,news[A]?=some u→w.cell? (a.add A)=some u) (W:∀u∈news,u.oneCell'=true)
  (X:n+m≤maxLen) (S:(n+m)*bytes≤140737488355328) (aw:K≤w.heap.size) :
  ∃I w',(Builtin.append_ #[s,s] E #[v,.slice (some a) m c]).run P w=.ok I w'∧w'.ownsRow K e size I (n+m) (xs++news)∧w.grownBy w' v.ownBlock ∧
   (∀k,I.ownBlock=some k→v.ownBlock=some k∨w.heap.size≤k):=by
 obtain⟨I,w',j,ab,ad,am⟩:=run_append_own (P:=P) w K s E e i J size bytes O hi T Z Y a5 a4 v n xs N a m c news t L W X S aw
 refine⟨I,w',j,ab,ad,?_⟩
 subst Z
 subst Y
 have I:n+m≤9223372036854775807:=by simp only[maxLen]at X;omega
 rcases N.2 with⟨rfl,rfl⟩|⟨g,cap,U,rfl,I,a2,X,K,a1,Y⟩
 ·by_cases a3:m=0
  ·rw[am.2 ⟨rfl,a3⟩];intro k q;simp[Value.ownBlock]at q
  ·have z:=run_append_nil (P:=P) w s E e i J O hi T a m c news t L (by omega) (by omega) (by have av:=S;simp only[Nat.zero_add]at av;omega);rw[z]at j;simp only[Result.ok.injEq]at j;rw[←j.1];intro k q;simp[Value.ownBlock]at q;right;omega
 ·by_cases I:n+m≤cap
  ·have K:n*i.size+news.length≤U.size:=(by rw[t,a1,←Nat.add_mul];exact Nat.mul_le_mul_right _ I);have z:=run_append_room (P:=P) w s E e i O hi g n cap U a2 a m c news t L W I K;rw[z]at j;simp only[Result.ok.injEq]at j;rw[←j.1];intro k q;exact .inl q
  ·have holds:∀A u,xs[A]?=some u→w.cell? ((⟨g,0,none⟩:Addr).add A)=some u:=N.cells (g:=g) rfl;have z:=run_append_grow (P:=P) w s E e i J O hi T ⟨g,0,none⟩ n cap xs N.1 holds a m c news t L (by omega) (by omega) (growslice_fits (by omega) S);rw[z]at j;simp only[Result.ok.injEq]at j;rw[←j.1];intro k q;simp[Value.ownBlock]at q;right;omega

theorem sj {P:Program}{o:Oper}{a:Act}{w:World}{A:Act→World→Prop}{Q:Exit→Act→World→Prop}(E x:Operand)(s:TypeId)
  (X:o.op=.call { callee:=.builtin .append,args:=#[E,x],argTypes:=#[s,s] })
  (q:Nat) (e:TypeId) (i:TypeInfo) (z:Value) (size bytes:Nat) (av:P.underlying s=some (.slice e)) (hi:P.info? e=some i) (a1:i.zero=some z)
  (ad:i.size=size) (S:i.bytes=bytes) (a2:z.cells.size=size) (am:0<size)
  (v:Value) (n:Nat) (xs:List Value) (ab:a.eval E=v) (Y:w.ownsRow q e size v n xs)
  (t:Addr) (m c:Nat) (news:List Value) (aw:a.eval x=.slice (some t) m c) (U:news.length=m*size) (W:∀E u,news[E]?=some u→w.cell? (t.add E)=some u) (I:∀u∈news,u.oneCell'=true)
  (N:n+m≤maxLen) (T:(n+m)*bytes≤140737488355328) (O:q≤w.heap.size)
  (h:∀j w',w'.ownsRow q e size j (n+m) (xs++news)→w.grownBy w' v.ownBlock→(∀k,j.ownBlock=some k→v.ownBlock=some k∨w.heap.size≤k)→A (a.put o.dst j) w'):o.wp P a w A Q:=by
 obtain⟨j,w',Z,J,K,L⟩:=zJ (P:=P) w q s o.type e i z size bytes av hi a1 ad S a2 am v n xs Y t m c news U W I N T O
 unfold Oper.wp execOp
 simp only[X,resolve,invoke,builtin,Sem.run_bind,Sem.run_pure,Result.andThen_ok,List.map_toArray,List.map_cons,List.map_nil,ab,aw,Z]
 exact h j w' J K L

theorem AM {P:Program}{I:Array Oper}{o:Oper}{a:Act}{w:World}{E:Act→World→Prop}{Q:Exit→Act→World→Prop}{J:Prop}
  (T:o.guard=none) (t x:Operand) (q:TypeId) (X:o.op=Op.call { callee:=Callee.builtin Builtin.append,args:=#[t,x],argTypes:=#[q,q] })
  (j:Nat) (e:TypeId) (i:TypeInfo) (A:Value) (size bytes:Nat) (am:P.underlying q=some (.slice e)) (hi:P.info? e=some i) (a1:i.zero=some A)
  (ab:i.size=size) (O:i.bytes=bytes) (a2:A.cells.size=size) (ad:0<size)
  (v:Value) (n:Nat) (xs:List Value) (Z:a.eval t=v) (Y:w.ownsRow j e size v n xs)
  (s:Addr) (m c:Nat) (news:List Value) (aw:a.eval x=.slice (some s) m c) (U:news.length=m*size) (W:∀z u,news[z]?=some u→w.cell? (s.add z)=some u) (K:∀u∈news,u.oneCell'=true)
  (L:n+m≤maxLen) (S:(n+m)*bytes≤140737488355328) (N:j≤w.heap.size)
  (h:∀z w',w'.ownsRow j e size z (n+m) (xs++news)→w.grownBy w' v.ownBlock→(∀k,z.ownBlock=some k→v.ownBlock=some k∨w.heap.size≤k)→E (a.put o.dst z) w') :
  if Region.wanted o (yielded I a.tmps)=true then Oper.wp P o a w E Q else J:=by
 have av:Region.wanted o (yielded I a.tmps)=true:=by simp[Region.wanted,T]
 rw[if_pos av]
 exact sj t x q X j e i A size bytes am hi a1 ab O a2 ad v n xs Z Y s m c news aw U W K L S N h

theorem si {P:Program}{E:Array Oper}{rest:List Oper}{o:Oper}{a:Act}{w:World}{Q:Exit→Act→World→Prop}(O:o.guard=none)(z x:Operand)(s:TypeId)
  (U:o.op=.call { callee:=.builtin .append,args:=#[z,x],argTypes:=#[s,s] })
  (q:Nat) (e:TypeId) (i:TypeInfo) (A:Value) (size bytes:Nat) (ab:P.underlying s=some (.slice e)) (hi:P.info? e=some i) (am:i.zero=some A)
  (Y:i.size=size) (L:i.bytes=bytes) (av:A.cells.size=size) (Z:0<size)
  (v:Value) (n:Nat) (xs:List Value) (X:a.eval z=v) (W:w.ownsRow q e size v n xs)
  (t:Addr) (m c:Nat) (news:List Value) (ad:a.eval x=.slice (some t) m c) (S:news.length=m*size) (T:∀j u,news[j]?=some u→w.cell? (t.add j)=some u) (I:∀u∈news,u.oneCell'=true)
  (J:n+m≤maxLen) (N:(n+m)*bytes≤140737488355328) (K:q≤w.heap.size)
  (h:∀j w',w'.ownsRow q e size j (n+m) (xs++news)→w.grownBy w' v.ownBlock→(∀k,j.ownBlock=some k→v.ownBlock=some k∨w.heap.size≤k)→wpList P E Q rest (a.put o.dst j) w'):wpList P E Q (o::rest) a w:=
 wpList_plain O fun _ E=>sj z x s U q e i A size bytes ab hi am Y L av Z v n xs X W t m c news ad S T I J N K fun j w' q s t=>E _ _ (h j w' q s t)

def fI (r:Rec):List Value:=
 [.int .u8 r.ad,.int .u8 r.I,.int .u8 r.J,.int .u8 r.lo.tag,.int .u32 r.lo.to,.int .u8 r.hi.tag,.int .u32 r.hi.to]

def bZ:Option Rec→List Value
 |some r=>fI r++[.bool true,.int .i64 0]
 |none=>fI Rec.zero++[.bool false,.int .i64 0]

def aU:Option (Rec×Int)→List Value
 |some (r,id)=>fI r++[.int .u32 id,.bool true]
 |none=>fI Rec.zero++[.int .u32 0,.bool false]

def an:Option Rec→Rec
 |some r=>r
 |none=>Rec.zero

def eZ:Option Rec→Bool
 |some _=>true
 |none=>false

theorem kh (c:Option Rec):(bZ c).length=9:=by cases c<;>rfl

theorem dZ (c:Option (Rec×Int)):(aU c).length=9:=by cases c<;>rfl

theorem mm {j:Type}(f:j→List Value)(k:Nat)(q:∀x,(f x).length=k)(l:List j):(l.flatMap f).length=l.length*k:=by
 induction l with
 |nil=>simp
 |cons x l s=>simp[List.flatMap_cons,s,q,Nat.succ_mul,Nat.add_comm]

theorem eA {t:Type}(f:t→List Value)(k:Nat)(s:∀x,(f x).length=k)(l:List t)(i j:Nat)(x:t)(q:l[i]?=some x)(z:j<k) :
  (l.flatMap f)[i*k+j]?=(f x)[j]?:=by
 induction l generalizing i with
 |nil=>simp at q
 |cons y l A=>
  cases i with
  |zero=>
   simp at q;subst q;simp only[List.flatMap_cons,Nat.zero_mul,Nat.zero_add];rw[List.getElem?_append_left (by rw[s];exact z)]
  |succ i=>
   simp only[List.flatMap_cons];rw[List.getElem?_append_right (by rw[s,Nat.succ_mul];omega),s];rw[show(i+1)*k+j-k=i*k+j by rw[Nat.succ_mul];omega];exact A i (by simpa using q)

def cW (w:World)(b o:Nat):List Value→World
 |[]=>w
 |v::j=>cW (w.setCell ⟨b,o,none⟩ v) b (o+1) j

theorem iw (b:Nat)(j:List Value):∀(o:Nat) (w:World),ae (fun k=>k=b) w (cW w b o j):=by
 induction j with
 |nil=>exact fun _ w=>ae.refl _ w
 |cons v j q=>exact fun o w=>ae.a' (ae.setCell (F:=fun k=>k=b) (p:=⟨b,o,none⟩) (ae.refl _ w) (Or.inl rfl) v) (q (o+1) _)

theorem zT (b:Nat)(s:List Value):∀(o:Nat) (w:World) (q:Array Value) (A:TypeId),w.heap[b]?=some (.cells q A (0,0)) →
  ∃t,(cW w b o s).heap[b]?=some (.cells t A (0,0))∧t.size=q.size∧(∀j,(j<o∨o+s.length≤j)→t[j]?=q[j]?)∧(∀j,j<s.length→o+s.length≤q.size→t[o+j]?=s[j]?):=by
 induction s with
 |nil=>exact fun o w q A h=>⟨q,h,rfl,fun _ _=>rfl,fun j z=>by simp at z⟩
 |cons v s L=>
  intro o w q A h;obtain⟨t,s,J,E,K⟩:=L (o+1) _ _ A (heap_setCell_same w b o q A v h);refine⟨t,s,by simpa using J,fun j z=>?_,fun j z I=>?_⟩
  ·rw[E j (by simp only[List.length_cons]at z;omega)];rw[Array.getElem?_setIfInBounds,if_neg (by simp only[List.length_cons]at z;omega)]
  ·cases j with
   |zero=>
    rw[Nat.add_zero,E o (by omega),Array.getElem?_setIfInBounds,if_pos rfl,if_pos (by simp only[List.length_cons]at I;omega)];rfl
   |succ j=>
    have:=K j (by simp only[List.length_cons]at z;omega) (by simp only[List.length_cons]at I;simp;omega);rw[show o+(j+1)=o+1+j by omega,this];rfl

theorem jc {z:Type}(f:z→List Value)(q:∀x,(f x).length=9){w:World}{A:Nat}{e:TypeId}{b n cap:Nat}{l:List z}(ad:l.length=n)
  (h:w.ownsRow A e 9 (.slice (some ⟨b,0,none⟩) n cap) n (l.flatMap f)) (i:Nat) (hi:i<n) (x:z) :
  (cW w b (i*9) (f x)).ownsRow A e 9 (.slice (some ⟨b,0,none⟩) n cap) n ((l.set i x).flatMap f):=by
 subst ad
 refine⟨by rw[mm f 9 q,List.length_set],?_⟩
 rcases h.2 with⟨ab,_⟩|⟨A,z,E,O,X,Z,L,Y,I,am⟩
 ·simp at ab
 ·simp only[Value.slice.injEq,Option.some.injEq,Addr.mk.injEq,and_true,true_and]at O;obtain⟨rfl,rfl⟩:=O;obtain⟨U,av,aw,S,T⟩:=zT b (f x) (i*9) w E e Z;rw[q]at S T;have z:l.length*9≤E.size:=by rw[I];exact Nat.mul_le_mul_right _ L
  refine .inr ⟨b,cap,U,rfl,X,av,L,Y,aw.trans I,?_⟩;apply List.ext_getElem?;intro j;by_cases t:j<l.length*9
  ·have K:j=j / 9*9+j%9:=(by omega);rw[List.getElem?_take,if_pos t,Array.getElem?_toList];have N:j / 9<l.length:=(by omega);by_cases J:j / 9=i
   ·have s:(l.set i x)[j / 9]?=some x:=(by rw[J];simp[hi]);have:=eA f 9 q (l.set i x) (j / 9) (j%9) x s (by omega);rw[←K]at this;rw[this,show j=i*9+j%9 by omega];have:=T (j%9) (by omega) (by omega);rw[this,show(i*9+j%9)%9=j%9 by omega]
   ·have W:l[j / 9]?=some l[j / 9]:=(by simp[N]);have s:(l.set i x)[j / 9]?=some l[j / 9]:=(by simp[List.getElem?_set,Ne.symm J,N]);have z:=eA f 9 q (l.set i x) (j / 9) (j%9) _ s (by omega);have a0:=eA f 9 q l (j / 9) (j%9) _ W (by omega);rw[←K]at z a0;rw[z,S j (by omega),←a0,←am,List.getElem?_take,if_pos t,Array.getElem?_toList]
  ·rw[List.getElem?_take,if_neg t,List.getElem?_eq_none];rw[mm f 9 q,List.length_set];omega

theorem kp {w w':World}(h:aa w w':=by(repeat (first|with_reducible exact aa.refl _|with_reducible assumption|with_reducible refine aa.alloc ?_ _|with_reducible refine aa.drewN ?_ _|with_reducible refine aa.drew ?_|refine aa.setCell ?_ (by dsimp only;omega) _|with_reducible refine aa.trans ?_ (by assumption)))):aa w w':=h

theorem up {F:Nat→Prop}{w w':World}(h:ae F w w':=by(repeat (first|with_reducible exact ae.refl _ _|with_reducible assumption|with_reducible exact aa.av (by assumption) _|with_reducible refine ae.alloc ?_ _|with_reducible refine ae.drewN ?_ _|with_reducible refine ae.drew ?_|refine ae.setCell ?_ (Or.inl (by first|rfl|assumption)) _|refine ae.setCell ?_ (Or.inr (by dsimp only;omega)) _|with_reducible refine ae.a' ?_ (by assumption)|with_reducible refine ae.a' ?_ (aa.av (by assumption) _)))):ae F w w':=h

def look (cs:List (Option Rec))(id:Int):Option Rec:=if id<2 then none else(cs[(id-2).toNat]?).join

structure cO (F:Nat→Prop)(w:World)(ab:Nat)(cs:List (Option Rec))(gone:List Int)(cnt room:Int):Prop where
 h0:∃cv fv,w.heap[ab]?=some (.cells #[cv,fv,.int .i64 cnt,.int .i64 room] 194 (0,0)) ∧
  w.ownsRow 0 271 9 cv cs.length (cs.flatMap bZ)∧w.ownsRow 0 50 1 fv gone.length (gone.map (Value.int .u32)) ∧
  (∀k,cv.ownBlock=some k→F k)∧(∀k,fv.ownBlock=some k→F k)
 own:F ab
 bx:cs.length≤1048576
 sum:cnt+gone.length=cs.length
 hW:0≤cnt
 I:room≤1048576
 hY:∀id∈gone,2≤id∧id-2<(cs.length:Int)
 b1:∀r,some r∈cs→r.ok

theorem bM {w:World}{s:Nat}{e:TypeId}{size:Nat}{v:Value}{n:Nat}{xs:List Value}(h:w.ownsRow s e size v n xs){k:Nat}(q:v.ownBlock=some k) :
  ∃j,w.heap[k]?=some (.cells j e (0,0)):=by
 rcases h.2 with⟨rfl,_⟩|⟨g,cap,j,rfl,_,t,_⟩
 ·simp[Value.ownBlock]at q
 ·simp[Value.ownBlock]at q;subst q;exact⟨j,t⟩

theorem dq {w:World}{a b:Nat}{x y:Array Value}{q s:TypeId}{p A:Nat×Nat}(t:w.heap[a]?=some (.cells x q p))(j:w.heap[b]?=some (.cells y s A))(z:q≠s):a≠b:=by
 intro e;subst e;rw[t]at j;simp at j;exact z j.2.1

theorem cO.a5 {F G:Nat→Prop}{w s:World}{j:Nat}{cs:List (Option Rec)}{gone:List Int}{z room:Int}(h:cO F w j cs gone z room)(t:ae G w s)(q:∀k,F k→¬G k) :
  cO F s j cs gone z room:=by
 obtain⟨⟨T,U,A,W,X,E,I⟩,z,J,K,L,N,O,S⟩:=h
 exact⟨⟨T,U,(t.block j (aN A) (q _ z)).trans A,t.br (fun k s=>q _ (E k s)) W,t.br (fun k s=>q _ (I k s)) X,E,I⟩,z,J,K,L,N,O,S⟩

theorem cO.U {F:Nat→Prop}{w j:World}{q:Nat}{cs:List (Option Rec)}{gone:List Int}{s room:Int}(h:cO F w q cs gone s room)(t:aa w j):cO F j q cs gone s room:=
 h.a5 (t.av (fun _=>False)) (fun _ _ h=>h)

theorem bL {cs:List (Option Rec)}{id:Int}{r:Rec}(h:look cs id=some r):2≤id∧id-2<(cs.length:Int)∧cs[(id-2).toNat]?=some (some r):=by
 unfold look at h;split at h;·cases h
 ·rename_i s
  have j:cs[(id-2).toNat]?=some (some r):=by
   cases q:cs[(id-2).toNat]? with
   |none=>simp[q]at h
   |some x=>rw[q]at h;simp at h;rw[h]
  have:=(List.getElem?_eq_some_iff.1 j).1;exact⟨by omega,by omega,j⟩

theorem xA {cs:List (Option Rec)}{id:Int}(h:look cs id=none):id<2∨(2≤id∧(cs.length:Int)≤id-2)∨(2≤id∧id-2<(cs.length:Int)∧cs[(id-2).toNat]?=some none):=by
 unfold look at h;split at h;·exact .inl (by assumption)
 ·rename_i j;by_cases j:id-2<(cs.length:Int)
  ·right;right;refine⟨by omega,j,?_⟩;have j:(id-2).toNat<cs.length:=(by omega);rw[List.getElem?_eq_getElem j]at h ⊢;simp at h;rw[h]
  ·exact .inr (.inl ⟨by omega,by omega⟩)

theorem cO.cell {F:Nat→Prop}{w:World}{s:Nat}{cs:List (Option Rec)}{gone:List Int}{A room:Int}(h:cO F w s cs gone A room) :
  ∃a cap,w.cell? ⟨s,0,none⟩=some (.slice a cs.length cap)∧(cs.length≠0→∃q,a=some ⟨q,0,none⟩∧q≠s∧F q ∧
   (∀i c,cs[i]?=some c→∀j,j<9→w.cell? ⟨q,i*9+j,none⟩=(bZ c)[j]?)∧∀j,w.frozen? ⟨q,j,none⟩=false):=by
 obtain⟨⟨W,X,z,t,Y,E,Z⟩,A,L,N,O,S,T,U⟩:=h
 obtain⟨a,cap,rfl,K⟩:=eO t
 refine⟨a,cap,by rw[cell_of_row w s 0 _ _ _ z];rfl,fun J=>?_⟩
 obtain⟨q,rfl⟩:=K J
 obtain⟨s,I⟩:=bM t (k:=q) rfl
 refine⟨q,rfl,dq I z (by decide),E q rfl,fun i c s j A=>?_,fun j=>t.frozenAt j⟩
 have hi:=(List.getElem?_eq_some_iff.1 s).1
 rw[t.cellAt (i*9+j) (by omega)]
 exact eA bZ 9 kh cs i j c s A

theorem fQ {w w1:World}{a b c d e f g:Value}{j:TypeId}(h:aa (w.alloc (.cells #[a,b,c,d,e,f,g] j)) w1) :
  w1.cell? ⟨w.heap.size,0,none⟩=some a∧w1.cell? ⟨w.heap.size,1,none⟩=some b∧w1.cell? ⟨w.heap.size,2,none⟩=some c∧w1.cell? ⟨w.heap.size,3,none⟩=some d ∧
   w1.cell? ⟨w.heap.size,4,none⟩=some e∧w1.cell? ⟨w.heap.size,5,none⟩=some f∧w1.cell? ⟨w.heap.size,6,none⟩=some g:=
 ⟨h.cell (by simp),h.cell (by simp),h.cell (by simp),h.cell (by simp),h.cell (by simp),h.cell (by simp),h.cell (by simp)⟩

theorem aa.e4 {w w1:World}(h:aa w w1){k:Nat}{a b c d e f g:Value}
  (I:w.cell? ⟨k,0,none⟩=some a∧w.cell? ⟨k,1,none⟩=some b∧w.cell? ⟨k,2,none⟩=some c∧w.cell? ⟨k,3,none⟩=some d∧w.cell? ⟨k,4,none⟩=some e∧w.cell? ⟨k,5,none⟩=some f∧w.cell? ⟨k,6,none⟩=some g) :
  w1.cell? ⟨k,0,none⟩=some a∧w1.cell? ⟨k,1,none⟩=some b∧w1.cell? ⟨k,2,none⟩=some c∧w1.cell? ⟨k,3,none⟩=some d∧w1.cell? ⟨k,4,none⟩=some e∧w1.cell? ⟨k,5,none⟩=some f∧w1.cell? ⟨k,6,none⟩=some g:=by
 obtain⟨j,q,s,t,z,A,E⟩:=I
 exact⟨h.cell j,h.cell q,h.cell s,h.cell t,h.cell z,h.cell A,h.cell E⟩

abbrev ah:=List (Option (Rec×Int))

def ah.at (ts:ah)(i:Nat)(r:Rec)(id:Int):Prop:=ts[i]?=some (some (r,id))

def ah.has (ts:ah)(r:Rec)(id:Int):Prop:=∃i,ah.at ts i r id

def occ (ts:ah):Nat:=ts.countP (·.isSome)

structure dI (H:Rec→Nat→Nat)(ts:ah):Prop where
 c9:∀i j r id id',ah.at ts i r id→ah.at ts j r id'→i=j
 e1:∀i r id,ah.at ts i r id→∃D,D<ts.length∧i=(H r ts.length+D)%ts.length∧∀d,d<D→∃r' id',ah.at ts ((H r ts.length+d)%ts.length) r' id'

structure Ends (H:Rec→Nat→Nat)(ts:ah)(r:Rec)(D:Nat):Prop where
 lt:D<ts.length
 go:∀d,d<D→∃r' id,ts[(H r ts.length+d)%ts.length]?=some (some (r',id))∧r'≠r
 stop:ts[(H r ts.length+D)%ts.length]?=some none∨∃id,ts[(H r ts.length+D)%ts.length]?=some (some (r,id))

theorem qo {ts:ah}(h:occ ts<ts.length):∃e:Nat,ts[e]?=some none:=by
 unfold occ at h
 have:¬∀x∈ts,x.isSome=true:=fun s=>by
  rw[List.countP_eq_length.2 s]at h;omega
 have:∃x∈ts,x.isSome=false:=by
  apply Classical.byContradiction;intro t
  exact this fun x q=>by
   cases j:x.isSome with
   |true=>rfl
   |false=>exact(t ⟨x,q,j⟩).elim
 obtain⟨x,q,j⟩:=this;obtain⟨e,s,t⟩:=List.mem_iff_getElem.1 q;refine⟨e,?_⟩;rw[List.getElem?_eq_getElem s,t];cases x with
 |none=>rfl
 |some _=>simp at j

theorem pV {p:Nat→Prop}{n:Nat}(h:p n):∃m,m≤n∧p m∧∀d,d<m→¬p d:=by
 induction n using Nat.strongRecOn with
 |_ n A=>
  by_cases q:∃m,m<n∧p m
  ·obtain⟨m,z,j⟩:=q;obtain⟨k,E,s,t⟩:=A m z j;exact⟨k,by omega,s,t⟩
  ·exact⟨n,Nat.le_refl _,h,fun d s j=>q ⟨d,s,j⟩⟩

theorem mR {h e len:Nat}(j:e<len):∃D,D<len∧(h+D)%len=e:=by
 have q:0<len:=by omega
 have s:=Nat.mod_lt h q;by_cases q:h%len≤e
 ·refine⟨e-h%len,by omega,?_⟩;rw[←Nat.mod_add_mod,show h%len+(e-h%len)=e by omega,Nat.mod_eq_of_lt j]
 ·refine⟨e+len-h%len,by omega,?_⟩;rw[←Nat.mod_add_mod,show h%len+(e+len-h%len)=e+len by omega,Nat.add_mod_right,Nat.mod_eq_of_lt j]

theorem kt {H:Rec→Nat→Nat}{ts:ah}(r:Rec)(h:∃e:Nat,ts[e]?=some none):∃D,Ends H ts r D:=by
 obtain⟨e,s⟩:=h;have A:=(List.getElem?_eq_some_iff.1 s).1;have J:0<ts.length:=by omega
 obtain⟨z,I,E⟩:=mR (h:=H r ts.length) A;obtain⟨D,K,I,A⟩:=pV (p:=fun D=>ts[(H r ts.length+D)%ts.length]?=some none∨∃id,ts[(H r ts.length+D)%ts.length]?=some (some (r,id))) (n:=z) (.inl (by rw[E];exact s));refine⟨D,by omega,fun d s=>?_,I⟩;have t:=A d s;have j:(H r ts.length+d)%ts.length<ts.length:=Nat.mod_lt _ J;cases q:ts[(H r ts.length+d)%ts.length]with
 |none=>exact(t (.inl (by rw[List.getElem?_eq_getElem j,q]))).elim
 |some x=>
  obtain⟨s,id⟩:=x;refine⟨s,id,by rw[List.getElem?_eq_getElem j,q],fun e=>?_⟩;subst e;exact t (.inr ⟨id,by rw[List.getElem?_eq_getElem j,q]⟩)

theorem Ends.ga {H:Rec→Nat→Nat}{ts:ah}{r:Rec}{D:Nat}(h:Ends H ts r D)(A:dI H ts){id:Int}(I:ah.has ts r id):ts[(H r ts.length+D)%ts.length]?=some (some (r,id)):=by
 obtain⟨i,hi⟩:=I;obtain⟨t,I,z,L⟩:=A.e1 i r id hi;rcases h.stop with q|⟨s,q⟩
 ·exfalso;rcases Nat.lt_trichotomy D t with J|heq|E
  ·obtain⟨N,s,j⟩:=L D J;unfold ah.at at j;rw[q]at j;simp at j
  ·subst heq;unfold ah.at at hi;rw[z,q]at hi;simp at hi
  ·obtain⟨N,s,j,K⟩:=h.go t E;unfold ah.at at hi;rw[z,j]at hi;simp at hi;exact K hi.1
 ·have:=A.c9 _ _ r id s hi q;unfold ah.at at hi;rw[←this];exact hi

theorem eQ {ts:ah}{j:Nat}(q:j<ts.length)(x:Option (Rec×Int))(i:Nat):(ts.set j x)[i]?=if i=j then some x else ts[i]?:=by
 rw[List.getElem?_set];by_cases h:j=i;·subst h;simp[q]
 ·simp[h,Ne.symm h]

theorem dI.put {H:Rec→Nat→Nat}{ts:ah}(N:dI H ts){r:Rec}{D:Nat}(K:Ends H ts r D)(E:ts[(H r ts.length+D)%ts.length]?=some none)(id:Int) :
  dI H (ts.set ((H r ts.length+D)%ts.length) (some (r,id)))∧occ (ts.set ((H r ts.length+D)%ts.length) (some (r,id)))=occ ts+1 ∧
   ∀q j,ah.has (ts.set ((H r ts.length+D)%ts.length) (some (r,id))) q j↔(q=r∧j=id)∨ah.has ts q j:=by
 have L:=(List.getElem?_eq_some_iff.1 E).1
 have T:∀j,¬ah.has ts r j:=fun j X=>by rw[K.ga N X]at E;simp at E
 generalize Y:(H r ts.length+D)%ts.length=I at *
 have A:∀i q j,ah.at (ts.set I (some (r,id))) i q j↔(i=I∧q=r∧j=id)∨(i≠I∧ah.at ts i q j):=by
  intro i q j;unfold ah.at;rw[eQ L];by_cases h:i=I
  ·simp[h];constructor;·rintro⟨rfl,rfl⟩;exact⟨rfl,rfl⟩
   ·rintro⟨rfl,rfl⟩;exact⟨rfl,rfl⟩
  ·simp[h]
 refine⟨⟨?_,?_⟩,?_,?_⟩
 ·intro a b S O ad s z;rw[A]at s z;rcases s with⟨rfl,rfl,rfl⟩|⟨W,s⟩<;>rcases z with⟨rfl,U,X⟩|⟨am,z⟩
  ·rfl
  ·exact(T _ ⟨b,z⟩).elim
  ·subst U;exact(T _ ⟨a,s⟩).elim
  ·exact N.c9 a b S O ad s z
 ·intro i S O s;rw[A]at s;rw[List.length_set];rcases s with⟨rfl,rfl,rfl⟩|⟨W,s⟩
  ·refine⟨D,K.lt,Y.symm,fun d J=>?_⟩;obtain⟨q,j,t,T⟩:=K.go d J;refine⟨q,j,(A _ _ _).2 (.inr ⟨fun e=>?_,t⟩)⟩;rw[e,E]at t;simp at t
  ·obtain⟨K,T,U,Z⟩:=N.e1 i S O s;refine⟨K,T,U,fun d J=>?_⟩;obtain⟨q,j,t⟩:=Z d J;refine⟨q,j,(A _ _ _).2 (.inr ⟨fun e=>?_,t⟩)⟩;unfold ah.at at t;rw[e,E]at t;simp at t
 ·unfold occ
  have ab:ts[I]=none:=by
   have:=E;rw[List.getElem?_eq_getElem L]at this;simpa using this
  rw[List.countP_set L];simp[ab]
 ·intro q j;constructor
  ·rintro⟨i,hi⟩;rcases(A _ _ _).1 hi with⟨_,s,z⟩|⟨_,h⟩
   ·exact .inl ⟨s,z⟩
   ·exact .inr ⟨i,h⟩
  ·rintro(⟨rfl,rfl⟩|⟨i,hi⟩);·exact⟨I,(A _ _ _).2 (.inl ⟨rfl,rfl,rfl⟩)⟩
   ·refine⟨i,(A _ _ _).2 (.inr ⟨fun e=>?_,hi⟩)⟩;unfold ah.at at hi;rw[e,E]at hi;simp at hi

theorem dI.empty (H:Rec→Nat→Nat)(n:Nat):dI H (List.replicate n none)∧occ (List.replicate n (none:Option (Rec×Int)))=0∧∀r id,¬ah.has (List.replicate n none) r id:=by
 have j:∀i r id,¬ah.at (List.replicate n none) i r id:=fun i r id h=>by
  unfold ah.at at h;have:=(List.getElem?_eq_some_iff.1 h);obtain⟨s,q⟩:=this;simp at q
 refine⟨⟨fun i s r id q h=>(j _ _ _ h).elim,fun i r id h=>(j _ _ _ h).elim⟩,?_,fun r id ⟨i,h⟩=>j i r id h⟩;unfold occ;simp[List.countP_replicate]

structure aj (W0:World) where
 w:World
 a5:aa W0 w

instance (W0:World):Nonempty (aj W0):=⟨⟨W0,aa.refl W0⟩⟩

theorem dT {P:Program}{id:Nat}{Q:Exit→Act→World→Prop}{a:Act}{w:World}{l:List Oper}(W0:World)(t:P.follows .mixedOrders=true)(s:Region.lexB .any l.toArray=true)(q:aa W0 w)
  (h:wpQuiet P l.toArray (fun w'=>∃x:aj W0,w'=x.w) (fun j=>∀w',(∃x:aj W0,w'=x.w)→Q .normal j w') l a):(Code.region id l.toArray true).wp P Q a w:=
 wp_region_quiet (C:=fun w'=>∃x:aj W0,w'=x.w) t s ⟨⟨w.drew,q.drew⟩,rfl⟩ (by simpa using h)

theorem Calls.b5 {P:Program}{f:FuncId}{args:Array Value}{W0:World}{x:aj W0}{v:Value}
  (h:Calls P f args x.w fun e w'=>e=.returned v∧aa x.w w'):Calls P f args x.w fun e s=>e=.returned v∧∃m:aj W0,s=m.w:=
 h.mono fun _ w' ⟨j,q⟩=>⟨j,⟨w',x.a5.trans q⟩,rfl⟩

theorem Calls.et {P:Program}{f:FuncId}{args:Array Value}{W0:World}{x:aj W0}{v:Value}
  (h:Calls P f args x.w fun e w'=>e=.returned v∧x.w=w'):Calls P f args x.w fun e j=>e=.returned v∧∃m:aj W0,j=m.w:=
 h.mono fun _ w' ⟨j,q⟩=>⟨j,x,q.symm⟩

theorem aj.cell {W0:World}{a:Addr}{v:Value}(h:W0.cell? a=some v)(x:aj W0):x.w.cell? a=some v:=x.a5.cell h

end Go.Proofs.YtafkamlhimkbmaaGreat
