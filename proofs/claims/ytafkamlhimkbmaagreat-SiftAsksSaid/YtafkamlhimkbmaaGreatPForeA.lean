/-
  Plain definitions and laws: edges, records, which of them may be. No program in sight.
-/
import Derived.Lib.Hide
import Derived.WalkKit
import Derived.WalkSmall
import Derived.Deep.Draws
import Derived.Deep.RegionLaw
import Derived.BigQuiet
namespace Go.Proofs.YtafkamlhimkbmaaGreat
set_option maxRecDepth 1000000
set_option maxHeartbeats 8000000
set_option linter.unusedSimpArgs false
set_option linter.unusedVariables false
structure Edge where
 tag:Int
 to:Int
structure Rec where
 al:Int
 I:Int
 J:Int
 lo:Edge
 hi:Edge
instance:DecidableEq Edge:=fun a b=>decidable_of_iff (a.tag=b.tag∧a.to=b.to) (by cases a;cases b;simp)
instance:DecidableEq Rec:=fun a b=>decidable_of_iff (a.al=b.al∧a.I=b.I∧a.J=b.J∧a.lo=b.lo∧a.hi=b.hi) (by cases a;cases b;simp)
def Edge.ok (e:Edge):Prop:=(0≤e.tag∧e.tag≤255)∧(0≤e.to∧e.to≤4294967295)
structure Rec.ok (r:Rec):Prop where
 al:0≤r.al∧r.al≤255
 I:0≤r.I∧r.I≤255
 J:0≤r.J∧r.J≤255
 lo:r.lo.ok
 hi:r.hi.ok
def Edge.zero:Edge:=⟨0,0⟩
def Rec.zero:Rec:=⟨0,0,0,⟨0,0⟩,⟨0,0⟩⟩
def aR (f:Int):Bool:=decide (1≤f)&&decide (f≤5)
def fQ (n:Int):Bool:=decide (0≤n)&&decide (n≤16)
def fN (f:Int):Bool:=f==3||f==4
def dE (f:Int)(e:Edge)(l n:Int):Bool:=
 if !aR f||!fQ n||decide (l<0)||decide (n<l)then false
 else if f != 5||e.to==0 then e.tag==0
 else decide (l≤e.tag)&&decide (e.tag≤n)
def fT (r:Rec)(n:Int):Bool:=
 if !aR r.al||!fQ n||decide (r.J<r.I)||decide (n≤r.J)||r.I != r.J&&!fN r.al then false
 else if !dE r.al r.lo (r.J+1) n||!dE r.al r.hi (r.J+1) n then false
 else if r.al==2||r.al==4 then r.hi.to != 0
 else !(r.lo.tag==r.hi.tag&&r.lo.to==r.hi.to)
set_option linter.defProp false
def ar:=@List.getElem?_eq_getElem
def aW:=@Nat.pow_le_pow_right
def bB:=@List.mem_of_getElem?
def bI:=@Nat.lt_of_lt_of_le
def dC:=@List.getD_eq_getElem?_getD
def cO:=@List.getElem?_eq_none
def dA:=@Array.getElem?_setIfInBounds
def bZ:=@List.length_set
def cN:=@Int.toNat_natCast
def di:=@List.length_append
def dm:=@List.length_cons
def dh:=@List.getElem?_map
def eE:=@List.mem_cons_of_mem
def dT:=@Nat.mod_eq_of_lt
def dd:=@Nat.pow_succ
def eP:=@List.append_assoc
def fK:=@List.getElem?_set_ne
def gy:=@List.getElem?_set_self
def gz:=@List.mem_append_left
def cF:=@List.mem_singleton
def bT:=@Bool.and_eq_true
def dS:=@Bool.or_eq_true
def bc:=@decide_eq_true
def aY:=@decide_eq_false
def ag:=@if_neg
def ah:=@if_pos
def bC:=@decide_eq_true_eq
def aE:=@Nat.le_refl
def dK:=@Nat.zero_add
def gA:=@Nat.add_zero
def iW:=@Nat.mul_comm
def kT:=@Nat.add_comm
def eF:=@Nat.le_trans
def nK:=@Nat.le_of_lt
def bU:=@Nat.mod_lt
def eG:=@Nat.pow_pos
def iX:=@Nat.mul_le_mul
def uO:=@Int.emod_emod_of_dvd
def fy:=@List.length_map
def iU:=@List.getElem?_append_left
def jt:=@List.getElem?_append_right
def jW:=@List.getElem?_range
def ic:=@List.take_of_length_le
def iV:=@List.length_take
def jV:=@List.flatMap_append
def fL:=@List.map_append
def ju:=@List.getElem?_take
def uP:=@List.length_replicate
open Go.RowKit
def ae (w w':World):Prop:=Below w.heap.size w w'
theorem ae.refl (w:World):ae w w:=Below.refl _ _
theorem ae.trans {a b c:World}(h:ae a b)(k:ae b c):ae a c:=Below.trans h (Below.mono k h.size)
theorem ae.alloc {a b:World}(h:ae a b)(o:Obj):ae a (b.alloc o):=Below.alloc h h.size o
theorem ae.drew {a b:World}(h:ae a b):ae a b.drew:=Below.drew h
theorem ae.drewN {a b:World}(h:ae a b)(n:Nat):ae a (b.drewN n):=below_drewN h n
theorem ae.setCell {a b:World}(h:ae a b){p:Addr}(j:a.heap.size≤p.block)(u:Value):ae a (b.setCell p u):=Below.setCell h j u
theorem ae.cells {j w1:World}(q:ae j w1):(∀b o,b<j.heap.size→w1.cell? ⟨b,o,none⟩=j.cell? ⟨b,o,none⟩)∧(∀b o,b<j.heap.size→w1.frozen? ⟨b,o,none⟩=j.frozen? ⟨b,o,none⟩):=
 ⟨fun b o h=>Below.cell q (p:=⟨b,o,none⟩) h,fun b o h=>Below.frozen q (p:=⟨b,o,none⟩) h⟩
theorem aB {w:World}{a:Addr}{v:Value}(h:w.cell? a=some v):a.block<w.heap.size:=World.block_lt_of_cell? w a h
theorem ae.cell {w w':World}(h:ae w w'){a:Addr}{v:Value}(j:w.cell? a=some v):w'.cell? a=some v:=(Below.cell h (aB j)).trans j
theorem aM {w:World}{k:Nat}{o:Obj}(h:w.heap[k]?=some o):k<w.heap.size:=lt_of_block h
theorem ae.heap {w w':World}(h:ae w w'){k:Nat}{o:Obj}(j:w.heap[k]?=some o):w'.heap[k]?=some o:=(h.block k (aM j)).trans j
structure af (F:Nat→Prop)(w w':World):Prop where
 os:w'.os=w.os
 tape:w'.tape=w.tape
 output:w'.output=w.output
 size:w.heap.size≤w'.heap.size
 block:∀k,k<w.heap.size→¬F k→w'.heap[k]?=w.heap[k]?
theorem ae.av {w w':World}(h:ae w w')(F:Nat→Prop):af F w w':=⟨h.os,h.tape,h.output,h.size,fun k j _=>h.block k j⟩
theorem af.refl (F:Nat→Prop)(w:World):af F w w:=⟨rfl,rfl,rfl,aE _,fun _ _ _=>rfl⟩
def aC (F:Nat→Prop)(w w':World):Nat→Prop:=fun k=>F k∨(w.heap.size≤k∧k<w'.heap.size)
theorem af.trans {F:Nat→Prop}{a b c:World}(h:af F a b)(k:af (aC F a b) b c):af F a c:=
 ⟨k.os.trans h.os,k.tape.trans h.tape,k.output.trans h.output,eF h.size k.size,fun i hi q=>
  (k.block i (bI hi h.size) (fun j=>by rcases j with j|j;exact q j;omega)).trans (h.block i hi q)⟩
theorem af.bg {F:Nat→Prop}{a b c:World}(h:af F a b)(k:af F b c):af F a c:=
 ⟨k.os.trans h.os,k.tape.trans h.tape,k.output.trans h.output,eF h.size k.size,fun i hi j=>
  (k.block i (bI hi h.size) j).trans (h.block i hi j)⟩
theorem af.mono {F G:Nat→Prop}{w w':World}(h:af F w w')(s:∀k,k<w.heap.size→F k→G k):af G w w':=
 ⟨h.os,h.tape,h.output,h.size,fun k j t=>h.block k j (fun q=>t (s k j q))⟩
theorem af.ad {F:Nat→Prop}{w w':World}(h:af F w w')(q:∀k,k<w.heap.size→¬F k):ae w w':=
 ⟨h.os,h.tape,h.output,h.size,fun k j=>h.block k j (q k j)⟩
theorem af.setCell {F:Nat→Prop}{a b:World}(h:af F a b){p:Addr}(hp:F p.block∨a.heap.size≤p.block)(u:Value):af F a (b.setCell p u):=
 ⟨h.os,h.tape,h.output,by simpa[World.setCell]using h.size,fun k q j=>by
  rw[Below.heap_setCell _ _ _ _ (fun e=>by subst e;rcases hp with hp|hp;exact j hp;omega)];exact h.block k q j⟩
theorem af.alloc {F:Nat→Prop}{a b:World}(h:af F a b)(o:Obj):af F a (b.alloc o):=
 ⟨h.os,h.tape,h.output,by have:=h.size;simp;omega,fun k j q=>by
  rw[Below.heap_alloc _ _ _ (bI j h.size)];exact h.block k j q⟩
theorem af.drewN {F:Nat→Prop}{a b:World}(h:af F a b)(n:Nat):af F a (b.drewN n):=⟨h.os,h.tape,h.output,h.size,h.block⟩
theorem af.drew {F:Nat→Prop}{a b:World}(h:af F a b):af F a b.drew:=⟨h.os,h.tape,h.output,h.size,h.block⟩
theorem af.b8 {F:Nat→Prop}{a b c:World}{row:Option Nat}(h:af F a b)(j:b.grownBy c row)(q:∀k,row=some k→F k∨a.heap.size≤k):af F a c:=
 ⟨j.os.trans h.os,j.tape.trans h.tape,j.output.trans h.output,eF h.size j.size,fun k t s=>
  (j.block k (bI t h.size) (fun e=>by rcases q k e.symm with q|q;exact s q;omega)).trans (h.block k t s)⟩
theorem af.bp {F:Nat→Prop}{w j:World}(h:af F w j){q:Nat}{e:TypeId}{size:Nat}{v:Value}{n:Nat}{xs:List Value}
  (B:∀k,v.ownBlock=some k→¬F k) (t:w.ownsRow q e size v n xs):j.ownsRow q e size v n xs:=by
 refine⟨t.1,?_⟩
 rcases t.2 with E|⟨g,cap,z,rfl,A,s,rest⟩
 ·exact .inl E
 ·refine .inr ⟨g,cap,z,rfl,A,?_,rest⟩;rw[h.block g (aM s) (B g rfl)];exact s
theorem ae.bp {w j:World}(h:ae w j){q:Nat}{e:TypeId}{size:Nat}{v:Value}{n:Nat}{xs:List Value}
  (s:w.ownsRow q e size v n xs):j.ownsRow q e size v n xs:=af.bp (h.av (fun _=>False)) (fun _ _ h=>h) s
theorem mF {w:World}{j:Nat}{e:TypeId}{size:Nat}{v:Value}{n:Nat}{xs:List Value}(q:w.ownsRow j e size v n xs)(s:0<n) :
  ∃g cap,v=.slice (some ⟨g,0,none⟩) n cap:=by
 rcases q.2 with⟨_,h⟩|⟨g,cap,_,h,_⟩
 ·omega
 ·exact⟨g,cap,h⟩
theorem dv {w:World}{j:Nat}{e:TypeId}{size:Nat}{v:Value}{n:Nat}{xs:List Value}(q:w.ownsRow j e size v n xs) :
  ∃a cap,v=.slice a n cap∧(n≠0→∃g,a=some ⟨g,0,none⟩):=by
 rcases q.2 with⟨h,j⟩|⟨g,cap,_,h,_⟩
 ·exact⟨none,0,by rw[h,j],fun h=>(h j).elim⟩
 ·exact⟨_,cap,h,fun _=>⟨g,rfl⟩⟩
theorem jd {w w':World}{row:Option Nat}(j:w.grownBy w' row){b o:Nat}{v:Value}(q:row≠some b)(h:w.cell? ⟨b,o,none⟩=some v):w'.cell? ⟨b,o,none⟩=some v:=
 j.cell h (fun e=>q e.symm)
theorem lh {w w':World}{row:Option Nat}(q:w.grownBy w' row){b o:Nat}(j:b<w.heap.size)(s:row≠some b)(h:w.frozen? ⟨b,o,none⟩=false):w'.frozen? ⟨b,o,none⟩=false:=
 (World.frozen?_of_block (a:=⟨b,o,none⟩) (q.block b j (fun e=>s e.symm))).trans h
theorem eU (w:World)(cs:Array Value)(t:TypeId)(g:Nat)(s:g=w.heap.size):∀j u,cs.toList[j]?=some u→(w.alloc (.cells cs t)).cell? ((⟨g,0,none⟩:Addr).add j)=some u:=by
 subst s;intro j u h;have q:(⟨w.heap.size,0,none⟩:Addr).add j=⟨w.heap.size,j,none⟩:=by unfold Addr.add;split<;>simp_all
 rw[q,World.cell?_alloc_new];simpa using h
theorem lZ (w:World)(cs:Array Value)(q:TypeId)(g:Nat)(s:g=w.heap.size):∀j u,cs.toList[j]?=some u→(w.alloc (.cells cs q)).drew.cell? ((⟨g,0,none⟩:Addr).add j)=some u:=eU w cs q g s
theorem World.cx (w:World)(n:Nat):(w.drewN n).heap.size=w.heap.size:=rfl
theorem World.a5 (w:World):w.drew.heap.size=w.heap.size:=rfl
theorem World.size_setCell (w:World)(a:Addr)(v:Value):(w.setCell a v).heap.size=w.heap.size:=by simp[World.setCell]
theorem World.size_alloc (w:World)(o:Obj):(w.alloc o).heap.size=w.heap.size+1:=by simp
theorem B7 {P:Program}(w:World)(J:Nat)(s B e:TypeId)(i:TypeInfo)(I:Value)(size bytes:Nat)(O:P.underlying s=some (.slice e))(hi:P.info? e=some i)(T:i.zero=some I)
  (Z:i.size=size) (Y:i.bytes=bytes) (a4:I.cells.size=size) (a3:0<size)
  (v:Value) (n:Nat) (xs:List Value) (N:w.ownsRow J e size v n xs)
  (a:Addr) (m c:Nat) (news:List Value) (t:news.length=m*size) (L:∀A u,news[A]?=some u→w.cell? (a.add A)=some u) (W:∀u∈news,u.oneCell'=true)
  (X:n+m≤maxLen) (S:(n+m)*bytes≤140737488355328) (av:J≤w.heap.size) :
  ∃E w',(Builtin.append_ #[s,s] B #[v,.slice (some a) m c]).run P w=.ok E w'∧w'.ownsRow J e size E (n+m) (xs++news)∧w.grownBy w' v.ownBlock ∧
   (∀k,E.ownBlock=some k→v.ownBlock=some k∨w.heap.size≤k):=by
 obtain⟨E,w',j,ab,ad,al⟩:=run_append_own (P:=P) w J s B e i I size bytes O hi T Z Y a4 a3 v n xs N a m c news t L W X S av
 refine⟨E,w',j,ab,ad,?_⟩
 subst Z
 subst Y
 have E:n+m≤9223372036854775807:=by simp only[maxLen]at X;omega
 rcases N.2 with⟨rfl,rfl⟩|⟨g,cap,U,rfl,E,a0,X,J,aw,Y⟩
 ·by_cases a1:m=0
  ·rw[al.2 ⟨rfl,a1⟩];intro k q;simp[Value.ownBlock]at q
  ·have z:=run_append_nil (P:=P) w s B e i I O hi T a m c news t L (by omega) (by omega) (by have am:=S;simp only[dK]at am;omega);rw[z]at j;simp only[Result.ok.injEq]at j;rw[←j.1];intro k q;simp[Value.ownBlock]at q;right;omega
 ·by_cases E:n+m≤cap
  ·have J:n*i.size+news.length≤U.size:=(by rw[t,aw,←Nat.add_mul];exact Nat.mul_le_mul_right _ E);have z:=run_append_room (P:=P) w s B e i O hi g n cap U a0 a m c news t L W E J;rw[z]at j;simp only[Result.ok.injEq]at j;rw[←j.1];intro k q;exact .inl q
  ·have holds:∀A u,xs[A]?=some u→w.cell? ((⟨g,0,none⟩:Addr).add A)=some u:=N.cells (g:=g) rfl;have z:=run_append_grow (P:=P) w s B e i I O hi T ⟨g,0,none⟩ n cap xs N.1 holds a m c news t L (by omega) (by omega) (growslice_fits (by omega) S);rw[z]at j;simp only[Result.ok.injEq]at j;rw[←j.1];intro k q;simp[Value.ownBlock]at q;right;omega
theorem ux {P:Program}{o:Oper}{a:Act}{w:World}{K:Act→World→Prop}{Q:Exit→Act→World→Prop}(A x:Operand)(s:TypeId)
  (W:o.op=.call { callee:=.builtin .append,args:=#[A,x],argTypes:=#[s,s] })
  (q:Nat) (e:TypeId) (i:TypeInfo) (z:Value) (size bytes:Nat) (al:P.underlying s=some (.slice e)) (hi:P.info? e=some i) (av:i.zero=some z)
  (ab:i.size=size) (O:i.bytes=bytes) (aw:z.cells.size=size) (ad:0<size)
  (v:Value) (n:Nat) (xs:List Value) (Z:a.eval A=v) (X:w.ownsRow q e size v n xs)
  (t:Addr) (m c:Nat) (news:List Value) (am:a.eval x=.slice (some t) m c) (T:news.length=m*size) (U:∀A u,news[A]?=some u→w.cell? (t.add A)=some u) (B:∀u∈news,u.oneCell'=true)
  (L:n+m≤maxLen) (S:(n+m)*bytes≤140737488355328) (N:q≤w.heap.size)
  (h:∀j w',w'.ownsRow q e size j (n+m) (xs++news)→w.grownBy w' v.ownBlock→(∀k,j.ownBlock=some k→v.ownBlock=some k∨w.heap.size≤k)→K (a.put o.dst j) w'):o.wp P a w K Q:=by
 obtain⟨j,w',Y,E,I,J⟩:=B7 (P:=P) w q s o.type e i z size bytes al hi av ab O aw ad v n xs X t m c news T U B L S N
 unfold Oper.wp execOp
 simp only[W,resolve,invoke,builtin,Sem.run_bind,Sem.run_pure,Result.andThen_ok,List.map_toArray,List.map_cons,List.map_nil,Z,am,Y]
 exact h j w' E I J
theorem pG {P:Program}{B:Array Oper}{o:Oper}{a:Act}{w:World}{K:Act→World→Prop}{Q:Exit→Act→World→Prop}{E:Prop}
  (S:o.guard=none) (t x:Operand) (q:TypeId) (W:o.op=Op.call { callee:=Callee.builtin Builtin.append,args:=#[t,x],argTypes:=#[q,q] })
  (j:Nat) (e:TypeId) (i:TypeInfo) (A:Value) (size bytes:Nat) (ad:P.underlying q=some (.slice e)) (hi:P.info? e=some i) (av:i.zero=some A)
  (Z:i.size=size) (N:i.bytes=bytes) (aw:A.cells.size=size) (ab:0<size)
  (v:Value) (n:Nat) (xs:List Value) (Y:a.eval t=v) (X:w.ownsRow j e size v n xs)
  (s:Addr) (m c:Nat) (news:List Value) (am:a.eval x=.slice (some s) m c) (T:news.length=m*size) (U:∀z u,news[z]?=some u→w.cell? (s.add z)=some u) (I:∀u∈news,u.oneCell'=true)
  (J:n+m≤maxLen) (O:(n+m)*bytes≤140737488355328) (L:j≤w.heap.size)
  (h:∀z w',w'.ownsRow j e size z (n+m) (xs++news)→w.grownBy w' v.ownBlock→(∀k,z.ownBlock=some k→v.ownBlock=some k∨w.heap.size≤k)→K (a.put o.dst z) w') :
  if Region.wanted o (yielded B a.tmps)=true then Oper.wp P o a w K Q else E:=by
 have al:Region.wanted o (yielded B a.tmps)=true:=by simp[Region.wanted,S]
 rw[ah al]
 exact ux t x q W j e i A size bytes ad hi av Z N aw ab v n xs Y X s m c news am T U I J O L h
theorem uw {P:Program}{B:Array Oper}{rest:List Oper}{o:Oper}{a:Act}{w:World}{Q:Exit→Act→World→Prop}(O:o.guard=none)(z x:Operand)(s:TypeId)
  (U:o.op=.call { callee:=.builtin .append,args:=#[z,x],argTypes:=#[s,s] })
  (q:Nat) (e:TypeId) (i:TypeInfo) (A:Value) (size bytes:Nat) (ab:P.underlying s=some (.slice e)) (hi:P.info? e=some i) (al:i.zero=some A)
  (Y:i.size=size) (L:i.bytes=bytes) (am:A.cells.size=size) (Z:0<size)
  (v:Value) (n:Nat) (xs:List Value) (X:a.eval z=v) (W:w.ownsRow q e size v n xs)
  (t:Addr) (m c:Nat) (news:List Value) (ad:a.eval x=.slice (some t) m c) (S:news.length=m*size) (T:∀j u,news[j]?=some u→w.cell? (t.add j)=some u) (E:∀u∈news,u.oneCell'=true)
  (I:n+m≤maxLen) (N:(n+m)*bytes≤140737488355328) (J:q≤w.heap.size)
  (h:∀j w',w'.ownsRow q e size j (n+m) (xs++news)→w.grownBy w' v.ownBlock→(∀k,j.ownBlock=some k→v.ownBlock=some k∨w.heap.size≤k)→wpList P B Q rest (a.put o.dst j) w'):wpList P B Q (o::rest) a w:=
 wpList_plain O fun _ B=>ux z x s U q e i A size bytes ab hi al Y L am Z v n xs X W t m c news ad S T E I N J fun j w' q s t=>B _ _ (h j w' q s t)
def df (r:Rec):List Value:=
 [.int .u8 r.al,.int .u8 r.I,.int .u8 r.J,.int .u8 r.lo.tag,.int .u32 r.lo.to,.int .u8 r.hi.tag,.int .u32 r.hi.to]
def cX:Option Rec→List Value
 |some r=>df r++[.bool true,.int .i64 0]
 |none=>df Rec.zero++[.bool false,.int .i64 0]
def bj:Option (Rec×Int)→List Value
 |some (r,id)=>df r++[.int .u32 id,.bool true]
 |none=>df Rec.zero++[.int .u32 0,.bool false]
def aA:Option Rec→Rec
 |some r=>r
 |none=>Rec.zero
def jy:Option Rec→Bool
 |some _=>true
 |none=>false
theorem lY (c:Option Rec):(cX c).length=9:=by cases c<;>rfl
theorem fC (c:Option (Rec×Int)):(bj c).length=9:=by cases c<;>rfl
theorem ou {j:Type}(f:j→List Value)(k:Nat)(q:∀x,(f x).length=k)(l:List j):(l.flatMap f).length=l.length*k:=by
 induction l with
 |nil=>simp
 |cons x l s=>simp[List.flatMap_cons,s,q,Nat.succ_mul,kT]
theorem en {t:Type}(f:t→List Value)(k:Nat)(s:∀x,(f x).length=k)(l:List t)(i j:Nat)(x:t)(q:l[i]?=some x)(z:j<k) :
  (l.flatMap f)[i*k+j]?=(f x)[j]?:=by
 induction l generalizing i with
 |nil=>simp at q
 |cons y l A=>
  cases i with
  |zero=>
   simp at q;subst q;simp only[List.flatMap_cons,Nat.zero_mul,dK];rw[iU (by rw[s];exact z)]
  |succ i=>
   simp only[List.flatMap_cons];rw[jt (by rw[s,Nat.succ_mul];omega),s];rw[show(i+1)*k+j-k=i*k+j by rw[Nat.succ_mul];omega];exact A i (by simpa using q)
def dO (w:World)(b o:Nat):List Value→World
 |[]=>w
 |v::j=>dO (w.setCell ⟨b,o,none⟩ v) b (o+1) j
theorem jH (b:Nat)(j:List Value):∀(o:Nat) (w:World),af (fun k=>k=b) w (dO w b o j):=by
 induction j with
 |nil=>exact fun _ w=>af.refl _ w
 |cons v j q=>exact fun o w=>af.bg (af.setCell (F:=fun k=>k=b) (p:=⟨b,o,none⟩) (af.refl _ w) (Or.inl rfl) v) (q (o+1) _)
theorem Ck (b:Nat)(s:List Value):∀(o:Nat) (w:World) (q:Array Value) (A:TypeId),w.heap[b]?=some (.cells q A (0,0)) →
  ∃t,(dO w b o s).heap[b]?=some (.cells t A (0,0))∧t.size=q.size∧(∀j,(j<o∨o+s.length≤j)→t[j]?=q[j]?)∧(∀j,j<s.length→o+s.length≤q.size→t[o+j]?=s[j]?):=by
 induction s with
 |nil=>exact fun o w q A h=>⟨q,h,rfl,fun _ _=>rfl,fun j z=>by simp at z⟩
 |cons v s L=>
  intro o w q A h;obtain⟨t,s,I,B,J⟩:=L (o+1) _ _ A (heap_setCell_same w b o q A v h);refine⟨t,s,by simpa using I,fun j z=>?_,fun j z E=>?_⟩
  ·rw[B j (by simp only[dm]at z;omega)];rw[dA,ag (by simp only[dm]at z;omega)]
  ·cases j with
   |zero=>
    rw[gA,B o (by omega),dA,ah rfl,ah (by simp only[dm]at E;omega)];rfl
   |succ j=>
    have:=J j (by simp only[dm]at z;omega) (by simp only[dm]at E;simp;omega);rw[show o+(j+1)=o+1+j by omega,this];rfl
theorem kH {z:Type}(f:z→List Value)(q:∀x,(f x).length=9){w:World}{A:Nat}{e:TypeId}{b n cap:Nat}{l:List z}(ad:l.length=n)
  (h:w.ownsRow A e 9 (.slice (some ⟨b,0,none⟩) n cap) n (l.flatMap f)) (i:Nat) (hi:i<n) (x:z) :
  (dO w b (i*9) (f x)).ownsRow A e 9 (.slice (some ⟨b,0,none⟩) n cap) n ((l.set i x).flatMap f):=by
 subst ad
 refine⟨by rw[ou f 9 q,bZ],?_⟩
 rcases h.2 with⟨ab,_⟩|⟨A,z,B,O,X,Z,L,Y,E,al⟩
 ·simp at ab
 ·simp only[Value.slice.injEq,Option.some.injEq,Addr.mk.injEq,and_true,true_and]at O;obtain⟨rfl,rfl⟩:=O;obtain⟨U,am,av,S,T⟩:=Ck b (f x) (i*9) w B e Z;rw[q]at S T;have z:l.length*9≤B.size:=by rw[E];exact Nat.mul_le_mul_right _ L
  refine .inr ⟨b,cap,U,rfl,X,am,L,Y,av.trans E,?_⟩;apply List.ext_getElem?;intro j;by_cases t:j<l.length*9
  ·have J:j=j / 9*9+j%9:=(by omega);rw[ju,ah t,Array.getElem?_toList];have N:j / 9<l.length:=(by omega);by_cases I:j / 9=i
   ·have s:(l.set i x)[j / 9]?=some x:=(by rw[I];simp[hi]);have:=en f 9 q (l.set i x) (j / 9) (j%9) x s (by omega);rw[←J]at this;rw[this,show j=i*9+j%9 by omega];have:=T (j%9) (by omega) (by omega);rw[this,show(i*9+j%9)%9=j%9 by omega]
   ·have W:l[j / 9]?=some l[j / 9]:=(by simp[N]);have s:(l.set i x)[j / 9]?=some l[j / 9]:=(by simp[List.getElem?_set,Ne.symm I,N]);have z:=en f 9 q (l.set i x) (j / 9) (j%9) _ s (by omega);have s:=en f 9 q l (j / 9) (j%9) _ W (by omega);rw[←J]at z s;rw[z,S j (by omega),←s,←al,ju,ah t,Array.getElem?_toList]
  ·rw[ju,ag t,cO];rw[ou f 9 q,bZ];omega
theorem kp {w w':World}(h:ae w w':=by(repeat (first|with_reducible exact ae.refl _|with_reducible assumption|with_reducible refine ae.alloc ?_ _|with_reducible refine ae.drewN ?_ _|with_reducible refine ae.drew ?_|refine ae.setCell ?_ (by dsimp only;omega) _|with_reducible refine ae.trans ?_ (by assumption)))):ae w w':=h
theorem up {F:Nat→Prop}{w w':World}(h:af F w w':=by(repeat (first|with_reducible exact af.refl _ _|with_reducible assumption|with_reducible exact ae.av (by assumption) _|with_reducible refine af.alloc ?_ _|with_reducible refine af.drewN ?_ _|with_reducible refine af.drew ?_|refine af.setCell ?_ (Or.inl (by first|rfl|assumption)) _|refine af.setCell ?_ (Or.inr (by dsimp only;omega)) _|with_reducible refine af.bg ?_ (by assumption)|with_reducible refine af.bg ?_ (ae.av (by assumption) _)))):af F w w':=h
theorem ae.U {w w':World}(h:ae w w'){a:Addr}{v:Value}(j:w.cell? a=some v:=by simp[go_sem]):w'.cell? a=some v:=h.cell j
theorem aa {p:Prop}(h:p):Hid p:=Lib.hid h
def ai:=@World.size_alloc
def au:=@World.size_setCell
def aQ:=@Calls.quiet_of_same
def cq:=@World.frozen?_setCell
def aq:=@bodyPost_ret
def look (cs:List (Option Rec))(id:Int):Option Rec:=if id<2 then none else(cs[(id-2).toNat]?).join
structure dy (F:Nat→Prop)(w:World)(ab:Nat)(cs:List (Option Rec))(gone:List Int)(cnt room:Int):Prop where
 h8:∃cv fv,w.heap[ab]?=some (.cells #[cv,fv,.int .i64 cnt,.int .i64 room] 194 (0,0)) ∧
  w.ownsRow 0 271 9 cv cs.length (cs.flatMap cX)∧w.ownsRow 0 50 1 fv gone.length (gone.map (Value.int .u32)) ∧
  (∀k,cv.ownBlock=some k→F k)∧(∀k,fv.ownBlock=some k→F k)
 own:F ab
 bx:cs.length≤1048576
 sum:cnt+gone.length=cs.length
 h5:0≤cnt
 I:room≤1048576
 hR:∀id∈gone,2≤id∧id-2<(cs.length:Int)
 b0:∀r,some r∈cs→r.ok
theorem bF {w:World}{s:Nat}{e:TypeId}{size:Nat}{v:Value}{n:Nat}{xs:List Value}(h:w.ownsRow s e size v n xs){k:Nat}(q:v.ownBlock=some k) :
  ∃j,w.heap[k]?=some (.cells j e (0,0)):=by
 rcases h.2 with⟨rfl,_⟩|⟨g,cap,j,rfl,_,t,_⟩
 ·simp[Value.ownBlock]at q
 ·simp[Value.ownBlock]at q;subst q;exact⟨j,t⟩
theorem de {w:World}{a b:Nat}{x y:Array Value}{q s:TypeId}{p A:Nat×Nat}(t:w.heap[a]?=some (.cells x q p))(j:w.heap[b]?=some (.cells y s A))(z:q≠s):a≠b:=by
 intro e;subst e;rw[t]at j;simp at j;exact z j.2.1
theorem dy.a4 {F G:Nat→Prop}{w s:World}{j:Nat}{cs:List (Option Rec)}{gone:List Int}{z room:Int}(h:dy F w j cs gone z room)(t:af G w s)(q:∀k,F k→¬G k) :
  dy F s j cs gone z room:=by
 obtain⟨⟨S,T,z,U,W,A,B⟩,a2,E,I,J,L,N,O⟩:=h
 exact⟨⟨S,T,(t.block j (aM z) (q _ a2)).trans z,t.bp (fun k s=>q _ (A k s)) U,t.bp (fun k s=>q _ (B k s)) W,A,B⟩,a2,E,I,J,L,N,O⟩
theorem dy.ad {F:Nat→Prop}{w j:World}{q:Nat}{cs:List (Option Rec)}{gone:List Int}{s room:Int}(h:dy F w q cs gone s room)(t:ae w j):dy F j q cs gone s room:=
 h.a4 (t.av (fun _=>False)) (fun _ _ h=>h)
theorem ck {cs:List (Option Rec)}{id:Int}{r:Rec}(h:look cs id=some r):2≤id∧id-2<(cs.length:Int)∧cs[(id-2).toNat]?=some (some r):=by
 unfold look at h;split at h;·cases h
 ·rename_i s
  have j:cs[(id-2).toNat]?=some (some r):=by
   cases q:cs[(id-2).toNat]? with
   |none=>simp[q]at h
   |some x=>rw[q]at h;simp at h;rw[h]
  have:=(List.getElem?_eq_some_iff.1 j).1;exact⟨by omega,by omega,j⟩
theorem zr {cs:List (Option Rec)}{id:Int}(h:look cs id=none):id<2∨(2≤id∧(cs.length:Int)≤id-2)∨(2≤id∧id-2<(cs.length:Int)∧cs[(id-2).toNat]?=some none):=by
 unfold look at h;split at h;·exact .inl (by assumption)
 ·rename_i j;by_cases j:id-2<(cs.length:Int)
  ·right;right;refine⟨by omega,j,?_⟩;have j:(id-2).toNat<cs.length:=(by omega);rw[ar j]at h ⊢;simp at h;rw[h]
  ·exact .inr (.inl ⟨by omega,by omega⟩)
theorem dy.cell {F:Nat→Prop}{w:World}{s:Nat}{cs:List (Option Rec)}{gone:List Int}{A room:Int}(h:dy F w s cs gone A room) :
  ∃a cap,w.cell? ⟨s,0,none⟩=some (.slice a cs.length cap)∧(cs.length≠0→∃q,a=some ⟨q,0,none⟩∧q≠s∧F q ∧
   (∀i c,cs[i]?=some c→∀j,j<9→w.cell? ⟨q,i*9+j,none⟩=(cX c)[j]?)∧∀j,w.frozen? ⟨q,j,none⟩=false):=by
 obtain⟨⟨U,W,z,t,X,B,Y⟩,a2,A,L,N,O,S,T⟩:=h
 obtain⟨a,cap,rfl,J⟩:=dv t
 refine⟨a,cap,by rw[cell_of_row w s 0 _ _ _ z];rfl,fun I=>?_⟩
 obtain⟨q,rfl⟩:=J I
 obtain⟨s,E⟩:=bF t (k:=q) rfl
 refine⟨q,rfl,de E z (by decide),B q rfl,fun i c s j A=>?_,fun j=>t.frozenAt j⟩
 have hi:=(List.getElem?_eq_some_iff.1 s).1
 rw[t.cellAt (i*9+j) (by omega)]
 exact en cX 9 lY cs i j c s A
theorem dL {w w1:World}{a b c d e f g:Value}{j:TypeId}(h:ae (w.alloc (.cells #[a,b,c,d,e,f,g] j)) w1) :
  w1.cell? ⟨w.heap.size,0,none⟩=some a∧w1.cell? ⟨w.heap.size,1,none⟩=some b∧w1.cell? ⟨w.heap.size,2,none⟩=some c∧w1.cell? ⟨w.heap.size,3,none⟩=some d ∧
   w1.cell? ⟨w.heap.size,4,none⟩=some e∧w1.cell? ⟨w.heap.size,5,none⟩=some f∧w1.cell? ⟨w.heap.size,6,none⟩=some g:=
 ⟨h.cell (by simp),h.cell (by simp),h.cell (by simp),h.cell (by simp),h.cell (by simp),h.cell (by simp),h.cell (by simp)⟩
theorem ae.ee {w w1:World}(h:ae w w1){k:Nat}{a b c d e f g:Value}
  (E:w.cell? ⟨k,0,none⟩=some a∧w.cell? ⟨k,1,none⟩=some b∧w.cell? ⟨k,2,none⟩=some c∧w.cell? ⟨k,3,none⟩=some d∧w.cell? ⟨k,4,none⟩=some e∧w.cell? ⟨k,5,none⟩=some f∧w.cell? ⟨k,6,none⟩=some g) :
  w1.cell? ⟨k,0,none⟩=some a∧w1.cell? ⟨k,1,none⟩=some b∧w1.cell? ⟨k,2,none⟩=some c∧w1.cell? ⟨k,3,none⟩=some d∧w1.cell? ⟨k,4,none⟩=some e∧w1.cell? ⟨k,5,none⟩=some f∧w1.cell? ⟨k,6,none⟩=some g:=by
 obtain⟨j,q,s,t,z,A,B⟩:=E
 exact⟨h.cell j,h.cell q,h.cell s,h.cell t,h.cell z,h.cell A,h.cell B⟩
abbrev ao:=List (Option (Rec×Int))
def ao.at (ts:ao)(i:Nat)(r:Rec)(id:Int):Prop:=ts[i]?=some (some (r,id))
def ao.has (ts:ao)(r:Rec)(id:Int):Prop:=∃i,ao.at ts i r id
def occ (ts:ao):Nat:=ts.countP (·.isSome)
structure eN (H:Rec→Nat→Nat)(ts:ao):Prop where
 c8:∀i j r id id',ao.at ts i r id→ao.at ts j r id'→i=j
 e5:∀i r id,ao.at ts i r id→∃D,D<ts.length∧i=(H r ts.length+D)%ts.length∧∀d,d<D→∃r' id',ao.at ts ((H r ts.length+d)%ts.length) r' id'
structure Ends (H:Rec→Nat→Nat)(ts:ao)(r:Rec)(D:Nat):Prop where
 lt:D<ts.length
 go:∀d,d<D→∃r' id,ts[(H r ts.length+d)%ts.length]?=some (some (r',id))∧r'≠r
 stop:ts[(H r ts.length+D)%ts.length]?=some none∨∃id,ts[(H r ts.length+D)%ts.length]?=some (some (r,id))
theorem sw {ts:ao}(h:occ ts<ts.length):∃e:Nat,ts[e]?=some none:=by
 unfold occ at h
 have:¬∀x∈ts,x.isSome=true:=fun s=>by
  rw[List.countP_eq_length.2 s]at h;omega
 have:∃x∈ts,x.isSome=false:=by
  apply Classical.byContradiction;intro t
  exact this fun x q=>by
   cases j:x.isSome with
   |true=>rfl
   |false=>exact(t ⟨x,q,j⟩).elim
 obtain⟨x,q,j⟩:=this;obtain⟨e,s,t⟩:=List.mem_iff_getElem.1 q;refine⟨e,?_⟩;rw[ar s,t];cases x with
 |none=>rfl
 |some _=>simp at j
theorem rN {p:Nat→Prop}{n:Nat}(h:p n):∃m,m≤n∧p m∧∀d,d<m→¬p d:=by
 induction n using Nat.strongRecOn with
 |_ n A=>
  by_cases q:∃m,m<n∧p m
  ·obtain⟨m,z,j⟩:=q;obtain⟨k,B,s,t⟩:=A m z j;exact⟨k,by omega,s,t⟩
  ·exact⟨n,aE _,h,fun d s j=>q ⟨d,s,j⟩⟩
theorem oX {h e len:Nat}(j:e<len):∃D,D<len∧(h+D)%len=e:=by
 have q:0<len:=by omega
 have s:=bU h q;by_cases q:h%len≤e
 ·refine⟨e-h%len,by omega,?_⟩;rw[←Nat.mod_add_mod,show h%len+(e-h%len)=e by omega,dT j]
 ·refine⟨e+len-h%len,by omega,?_⟩;rw[←Nat.mod_add_mod,show h%len+(e+len-h%len)=e+len by omega,Nat.add_mod_right,dT j]
theorem me {H:Rec→Nat→Nat}{ts:ao}(r:Rec)(h:∃e:Nat,ts[e]?=some none):∃D,Ends H ts r D:=by
 obtain⟨e,s⟩:=h;have A:=(List.getElem?_eq_some_iff.1 s).1;have I:0<ts.length:=by omega
 obtain⟨z,E,B⟩:=oX (h:=H r ts.length) A;obtain⟨D,J,E,A⟩:=rN (p:=fun D=>ts[(H r ts.length+D)%ts.length]?=some none∨∃id,ts[(H r ts.length+D)%ts.length]?=some (some (r,id))) (n:=z) (.inl (by rw[B];exact s));refine⟨D,by omega,fun d s=>?_,E⟩;have t:=A d s;have j:(H r ts.length+d)%ts.length<ts.length:=bU _ I;cases q:ts[(H r ts.length+d)%ts.length]with
 |none=>exact(t (.inl (by rw[ar j,q]))).elim
 |some x=>
  obtain⟨s,id⟩:=x;refine⟨s,id,by rw[ar j,q],fun e=>?_⟩;subst e;exact t (.inr ⟨id,by rw[ar j,q]⟩)
theorem Ends.gj {H:Rec→Nat→Nat}{ts:ao}{r:Rec}{D:Nat}(h:Ends H ts r D)(A:eN H ts){id:Int}(E:ao.has ts r id):ts[(H r ts.length+D)%ts.length]?=some (some (r,id)):=by
 obtain⟨i,hi⟩:=E;obtain⟨t,E,z,L⟩:=A.e5 i r id hi;rcases h.stop with q|⟨s,q⟩
 ·exfalso;rcases Nat.lt_trichotomy D t with I|heq|B
  ·obtain⟨N,s,j⟩:=L D I;unfold ao.at at j;rw[q]at j;simp at j
  ·subst heq;unfold ao.at at hi;rw[z,q]at hi;simp at hi
  ·obtain⟨N,s,j,J⟩:=h.go t B;unfold ao.at at hi;rw[z,j]at hi;simp at hi;exact J hi.1
 ·have:=A.c8 _ _ r id s hi q;unfold ao.at at hi;rw[←this];exact hi
theorem gl {ts:ao}{j:Nat}(q:j<ts.length)(x:Option (Rec×Int))(i:Nat):(ts.set j x)[i]?=if i=j then some x else ts[i]?:=by
 rw[List.getElem?_set];by_cases h:j=i;·subst h;simp[q]
 ·simp[h,Ne.symm h]
theorem eN.put {H:Rec→Nat→Nat}{ts:ao}(N:eN H ts){r:Rec}{D:Nat}(J:Ends H ts r D)(B:ts[(H r ts.length+D)%ts.length]?=some none)(id:Int) :
  eN H (ts.set ((H r ts.length+D)%ts.length) (some (r,id)))∧occ (ts.set ((H r ts.length+D)%ts.length) (some (r,id)))=occ ts+1 ∧
   ∀q j,ao.has (ts.set ((H r ts.length+D)%ts.length) (some (r,id))) q j↔(q=r∧j=id)∨ao.has ts q j:=by
 have L:=(List.getElem?_eq_some_iff.1 B).1
 have T:∀j,¬ao.has ts r j:=fun j X=>by rw[J.gj N X]at B;simp at B
 generalize Y:(H r ts.length+D)%ts.length=E at *
 have A:∀i q j,ao.at (ts.set E (some (r,id))) i q j↔(i=E∧q=r∧j=id)∨(i≠E∧ao.at ts i q j):=by
  intro i q j;unfold ao.at;rw[gl L];by_cases h:i=E
  ·simp[h];constructor;·rintro⟨rfl,rfl⟩;exact⟨rfl,rfl⟩
   ·rintro⟨rfl,rfl⟩;exact⟨rfl,rfl⟩
  ·simp[h]
 refine⟨⟨?_,?_⟩,?_,?_⟩
 ·intro a b S O ad s z;rw[A]at s z;rcases s with⟨rfl,rfl,rfl⟩|⟨W,s⟩<;>rcases z with⟨rfl,U,X⟩|⟨al,z⟩
  ·rfl
  ·exact(T _ ⟨b,z⟩).elim
  ·subst U;exact(T _ ⟨a,s⟩).elim
  ·exact N.c8 a b S O ad s z
 ·intro i S O s;rw[A]at s;rw[bZ];rcases s with⟨rfl,rfl,rfl⟩|⟨W,s⟩
  ·refine⟨D,J.lt,Y.symm,fun d I=>?_⟩;obtain⟨q,j,t,T⟩:=J.go d I;refine⟨q,j,(A _ _ _).2 (.inr ⟨fun e=>?_,t⟩)⟩;rw[e,B]at t;simp at t
  ·obtain⟨J,T,U,Z⟩:=N.e5 i S O s;refine⟨J,T,U,fun d I=>?_⟩;obtain⟨q,j,t⟩:=Z d I;refine⟨q,j,(A _ _ _).2 (.inr ⟨fun e=>?_,t⟩)⟩;unfold ao.at at t;rw[e,B]at t;simp at t
 ·unfold occ
  have ab:ts[E]=none:=by
   have:=B;rw[ar L]at this;simpa using this
  rw[List.countP_set L];simp[ab]
 ·intro q j;constructor
  ·rintro⟨i,hi⟩;rcases(A _ _ _).1 hi with⟨_,s,z⟩|⟨_,h⟩
   ·exact .inl ⟨s,z⟩
   ·exact .inr ⟨i,h⟩
  ·rintro(⟨rfl,rfl⟩|⟨i,hi⟩);·exact⟨E,(A _ _ _).2 (.inl ⟨rfl,rfl,rfl⟩)⟩
   ·refine⟨i,(A _ _ _).2 (.inr ⟨fun e=>?_,hi⟩)⟩;unfold ao.at at hi;rw[e,B]at hi;simp at hi
theorem eN.empty (H:Rec→Nat→Nat)(n:Nat):eN H (List.replicate n none)∧occ (List.replicate n (none:Option (Rec×Int)))=0∧∀r id,¬ao.has (List.replicate n none) r id:=by
 have j:∀i r id,¬ao.at (List.replicate n none) i r id:=fun i r id h=>by
  unfold ao.at at h;have:=(List.getElem?_eq_some_iff.1 h);obtain⟨s,q⟩:=this;simp at q
 refine⟨⟨fun i s r id q h=>(j _ _ _ h).elim,fun i r id h=>(j _ _ _ h).elim⟩,?_,fun r id ⟨i,h⟩=>j i r id h⟩;unfold occ;simp[List.countP_replicate]
structure an (W0:World) where
 w:World
 a4:ae W0 w
instance (W0:World):Nonempty (an W0):=⟨⟨W0,ae.refl W0⟩⟩
theorem cU {P:Program}{id:Nat}{Q:Exit→Act→World→Prop}{a:Act}{w:World}{l:List Oper}(j:World)(z:P.follows .mixedOrders=true)(t:Region.lexB .any l.toArray=true)(s:ae j w)
  (h:wpQuiet P l.toArray (fun w'=>∃x:an j,w'=x.w) (fun q=>∀w',(∃x:an j,w'=x.w)→Q .normal q w') l a):(Code.region id l.toArray true).wp P Q a w:=
 wp_region_quiet (C:=fun w'=>∃x:an j,w'=x.w) z t ⟨⟨w.drew,s.drew⟩,rfl⟩ (by simpa using h)
theorem Calls.b1 {P:Program}{f:FuncId}{args:Array Value}{j:World}{x:an j}{v:Value}
  (h:Calls P f args x.w fun e w'=>e=.returned v∧ae x.w w'):Calls P f args x.w fun e t=>e=.returned v∧∃m:an j,t=m.w:=
 h.mono fun _ w' ⟨q,s⟩=>⟨q,⟨w',x.a4.trans s⟩,rfl⟩
theorem Calls.c' {P:Program}{f:FuncId}{args:Array Value}{j:World}{x:an j}{v:Value}
  (h:Calls P f args x.w fun e w'=>e=.returned v∧x.w=w'):Calls P f args x.w fun e q=>e=.returned v∧∃m:an j,q=m.w:=
 h.mono fun _ w' ⟨j,q⟩=>⟨j,x,q.symm⟩
theorem an.cell {j:World}{a:Addr}{v:Value}(h:j.cell? a=some v)(x:an j):x.w.cell? a=some v:=x.a4.cell h
end Go.Proofs.YtafkamlhimkbmaaGreat
