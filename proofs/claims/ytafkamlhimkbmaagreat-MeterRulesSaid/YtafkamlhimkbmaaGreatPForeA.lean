/-
  Plain definitions and laws: edges, records, which of them may be. No program in sight.
-/
import Derived.Lib.Hide
import Derived.WalkKit
import Derived.WalkSmall
import Derived.Deep.Draws
import Derived.Deep.RegionLaw
import Derived.BigQuiet
namespace Go.Proofs.YtafkamlhimkbmaaGreat
set_option maxRecDepth 1000000
set_option maxHeartbeats 8000000
set_option linter.unusedSimpArgs false
set_option linter.unusedVariables false
structure Edge where
 tag:Int
 to:Int
structure Rec where
 ad:Int
 top:Int
 J:Int
 lo:Edge
 hi:Edge
instance:DecidableEq Edge:=fun a b=>decidable_of_iff (a.tag=b.tag∧a.to=b.to) (by cases a;cases b;simp)
instance:DecidableEq Rec:=fun a b=>decidable_of_iff (a.ad=b.ad∧a.top=b.top∧a.J=b.J∧a.lo=b.lo∧a.hi=b.hi) (by cases a;cases b;simp)
def Edge.ok (e:Edge):Prop:=(0≤e.tag∧e.tag≤255)∧(0≤e.to∧e.to≤4294967295)
structure Rec.ok (r:Rec):Prop where
 ad:0≤r.ad∧r.ad≤255
 top:0≤r.top∧r.top≤255
 J:0≤r.J∧r.J≤255
 lo:r.lo.ok
 hi:r.hi.ok
def Edge.zero:Edge:=⟨0,0⟩
def Rec.zero:Rec:=⟨0,0,0,⟨0,0⟩,⟨0,0⟩⟩
def bZ (f:Int):Bool:=decide (1≤f)&&decide (f≤5)
def gd (n:Int):Bool:=decide (0≤n)&&decide (n≤16)
def fF (f:Int):Bool:=f==3||f==4
def eH (f:Int)(e:Edge)(l n:Int):Bool:=
 if !bZ f||!gd n||decide (l<0)||decide (n<l)then false
 else if f != 5||e.to==0 then e.tag==0
 else decide (l≤e.tag)&&decide (e.tag≤n)
def iq (r:Rec)(n:Int):Bool:=
 if !bZ r.ad||!gd n||decide (r.J<r.top)||decide (n≤r.J)||r.top != r.J&&!fF r.ad then false
 else if !eH r.ad r.lo (r.J+1) n||!eH r.ad r.hi (r.J+1) n then false
 else if r.ad==2||r.ad==4 then r.hi.to != 0
 else !(r.lo.tag==r.hi.tag&&r.lo.to==r.hi.to)
set_option linter.defProp false
def aQ:=@List.getElem?_eq_getElem
def cJ:=@Nat.pow_le_pow_right
def dy:=@List.mem_of_getElem?
def dz:=@Nat.lt_of_lt_of_le
def fU:=@List.getD_eq_getElem?_getD
def eT:=@List.getElem?_eq_none
def ia:=@Array.getElem?_setIfInBounds
def de:=@List.length_set
def bG:=@Int.toNat_natCast
def fW:=@List.length_append
def eN:=@List.length_cons
def iB:=@List.getElem?_map
def ew:=@List.mem_cons_of_mem
def fC:=@Nat.mod_eq_of_lt
def dA:=@Nat.pow_succ
def eu:=@List.append_assoc
def fV:=@List.getElem?_set_ne
def jA:=@List.getElem?_set_self
def fY:=@List.mem_append_left
def cZ:=@List.mem_singleton
def cA:=@Bool.and_eq_true
def dL:=@Bool.or_eq_true
def bM:=@decide_eq_true
def bQ:=@decide_eq_false
def ag:=@if_neg
def ai:=@if_pos
def cm:=@decide_eq_true_eq
def aI:=@Nat.le_refl
def iD:=@Nat.zero_add
def gH:=@Nat.add_zero
def qT:=@Nat.mul_comm
def ka:=@Nat.add_comm
def dp:=@Nat.le_trans
def qS:=@Nat.le_of_lt
def fE:=@Nat.mod_lt
def iC:=@Nat.pow_pos
def qU:=@Nat.mul_le_mul
def AS:=@Int.emod_emod_of_dvd
def j9:=@List.length_map
def j7:=@List.getElem?_append_left
def j8:=@List.getElem?_append_right
def ng:=@List.getElem?_range
def fm:=@List.take_of_length_le
def gG:=@List.length_take
def qR:=@List.flatMap_append
def jB:=@List.map_append
def ic:=@List.getElem?_take
def nh:=@List.length_replicate
open Go.RowKit
def ae (w s:World):Prop:=Below w.heap.size w s
theorem ae.refl (w:World):ae w w:=Below.refl _ _
theorem ae.trans {a b c:World}(h:ae a b)(k:ae b c):ae a c:=Below.trans h (Below.mono k h.size)
theorem ae.alloc {a b:World}(h:ae a b)(o:Obj):ae a (b.alloc o):=Below.alloc h h.size o
theorem ae.drew {a b:World}(h:ae a b):ae a b.drew:=Below.drew h
theorem ae.drewN {a b:World}(h:ae a b)(n:Nat):ae a (b.drewN n):=below_drewN h n
theorem ae.setCell {a b:World}(h:ae a b){p:Addr}(t:a.heap.size≤p.block)(s:Value):ae a (b.setCell p s):=Below.setCell h t s
theorem ae.cells {s w1:World}(t:ae s w1):(∀b o,b<s.heap.size→w1.cell? ⟨b,o,none⟩=s.cell? ⟨b,o,none⟩)∧(∀b o,b<s.heap.size→w1.frozen? ⟨b,o,none⟩=s.frozen? ⟨b,o,none⟩):=
 ⟨fun b o h=>Below.cell t (p:=⟨b,o,none⟩) h,fun b o h=>Below.frozen t (p:=⟨b,o,none⟩) h⟩
theorem aJ {w:World}{a:Addr}{v:Value}(h:w.cell? a=some v):a.block<w.heap.size:=World.block_lt_of_cell? w a h
theorem ae.cell {w t:World}(h:ae w t){a:Addr}{v:Value}(s:w.cell? a=some v):t.cell? a=some v:=(Below.cell h (aJ s)).trans s
theorem bu {w:World}{k:Nat}{o:Obj}(h:w.heap[k]?=some o):k<w.heap.size:=lt_of_block h
theorem ae.heap {w t:World}(h:ae w t){k:Nat}{o:Obj}(s:w.heap[k]?=some o):t.heap[k]?=some o:=(h.block k (bu s)).trans s
structure af (F:Nat→Prop)(w w':World):Prop where
 os:w'.os=w.os
 tape:w'.tape=w.tape
 output:w'.output=w.output
 size:w.heap.size≤w'.heap.size
 block:∀k,k<w.heap.size→¬F k→w'.heap[k]?=w.heap[k]?
theorem ae.upd {w s:World}(h:ae w s)(F:Nat→Prop):af F w s:=⟨h.os,h.tape,h.output,h.size,fun k s _=>h.block k s⟩
theorem af.refl (F:Nat→Prop)(w:World):af F w w:=⟨rfl,rfl,rfl,aI _,fun _ _ _=>rfl⟩
def aH (F:Nat→Prop)(w s:World):Nat→Prop:=fun k=>F k∨(w.heap.size≤k∧k<s.heap.size)
theorem af.trans {F:Nat→Prop}{a b c:World}(h:af F a b)(k:af (aH F a b) b c):af F a c:=
 ⟨k.os.trans h.os,k.tape.trans h.tape,k.output.trans h.output,dp h.size k.size,fun i hi t=>
  (k.block i (dz hi h.size) (fun s=>by rcases s with s|s;exact t s;omega)).trans (h.block i hi t)⟩
theorem af.bd {F:Nat→Prop}{a b c:World}(h:af F a b)(k:af F b c):af F a c:=
 ⟨k.os.trans h.os,k.tape.trans h.tape,k.output.trans h.output,dp h.size k.size,fun i hi s=>
  (k.block i (dz hi h.size) s).trans (h.block i hi s)⟩
theorem af.mono {F G:Nat→Prop}{w s:World}(h:af F w s)(u:∀k,k<w.heap.size→F k→G k):af G w s:=
 ⟨h.os,h.tape,h.output,h.size,fun k s z=>h.block k s (fun t=>z (u k s t))⟩
theorem af.U {F:Nat→Prop}{w s:World}(h:af F w s)(t:∀k,k<w.heap.size→¬F k):ae w s:=
 ⟨h.os,h.tape,h.output,h.size,fun k s=>h.block k s (t k s)⟩
theorem af.setCell {F:Nat→Prop}{a b:World}(h:af F a b){p:Addr}(hp:F p.block∨a.heap.size≤p.block)(u:Value):af F a (b.setCell p u):=
 ⟨h.os,h.tape,h.output,by simpa[World.setCell]using h.size,fun k t s=>by
  rw[Below.heap_setCell _ _ _ _ (fun e=>by subst e;rcases hp with hp|hp;exact s hp;omega)];exact h.block k t s⟩
theorem af.alloc {F:Nat→Prop}{a b:World}(h:af F a b)(o:Obj):af F a (b.alloc o):=
 ⟨h.os,h.tape,h.output,by have:=h.size;simp;omega,fun k s t=>by
  rw[Below.heap_alloc _ _ _ (dz s h.size)];exact h.block k s t⟩
theorem af.drewN {F:Nat→Prop}{a b:World}(h:af F a b)(n:Nat):af F a (b.drewN n):=⟨h.os,h.tape,h.output,h.size,h.block⟩
theorem af.drew {F:Nat→Prop}{a b:World}(h:af F a b):af F a b.drew:=⟨h.os,h.tape,h.output,h.size,h.block⟩
theorem af.c' {F:Nat→Prop}{a b c:World}{row:Option Nat}(h:af F a b)(s:b.grownBy c row)(t:∀k,row=some k→F k∨a.heap.size≤k):af F a c:=
 ⟨s.os.trans h.os,s.tape.trans h.tape,s.output.trans h.output,dp h.size s.size,fun k z u=>
  (s.block k (dz z h.size) (fun e=>by rcases t k e.symm with t|t;exact u t;omega)).trans (h.block k z u)⟩
theorem af.ca {F:Nat→Prop}{w s:World}(h:af F w s){t:Nat}{e:TypeId}{size:Nat}{v:Value}{n:Nat}{D:List Value}
  (J:∀k,v.ownBlock=some k→¬F k) (z:w.ownsRow t e size v n D):s.ownsRow t e size v n D:=by
 refine⟨z.1,?_⟩
 rcases z.2 with N|⟨g,cap,E,rfl,I,u,rest⟩
 ·exact .inl N
 ·refine .inr ⟨g,cap,E,rfl,I,?_,rest⟩;rw[h.block g (bu u) (J g rfl)];exact u
theorem ae.ca {w s:World}(h:ae w s){t:Nat}{e:TypeId}{size:Nat}{v:Value}{n:Nat}{u:List Value}
  (z:w.ownsRow t e size v n u):s.ownsRow t e size v n u:=af.ca (h.upd (fun _=>False)) (fun _ _ h=>h) z
theorem wZ {w:World}{s:Nat}{e:TypeId}{size:Nat}{v:Value}{n:Nat}{u:List Value}(t:w.ownsRow s e size v n u)(z:0<n) :
  ∃g cap,v=.slice (some ⟨g,0,none⟩) n cap:=by
 rcases t.2 with⟨_,h⟩|⟨g,cap,_,h,_⟩
 ·omega
 ·exact⟨g,cap,h⟩
theorem gi {w:World}{s:Nat}{e:TypeId}{size:Nat}{v:Value}{n:Nat}{u:List Value}(t:w.ownsRow s e size v n u) :
  ∃a cap,v=.slice a n cap∧(n≠0→∃g,a=some ⟨g,0,none⟩):=by
 rcases t.2 with⟨h,s⟩|⟨g,cap,_,h,_⟩
 ·exact⟨none,0,by rw[h,s],fun h=>(h s).elim⟩
 ·exact⟨_,cap,h,fun _=>⟨g,rfl⟩⟩
theorem nU {w s:World}{row:Option Nat}(t:w.grownBy s row){b o:Nat}{v:Value}(u:row≠some b)(h:w.cell? ⟨b,o,none⟩=some v):s.cell? ⟨b,o,none⟩=some v:=
 t.cell h (fun e=>u e.symm)
theorem nV {w s:World}{row:Option Nat}(u:w.grownBy s row){b o:Nat}(t:b<w.heap.size)(z:row≠some b)(h:w.frozen? ⟨b,o,none⟩=false):s.frozen? ⟨b,o,none⟩=false:=
 (World.frozen?_of_block (a:=⟨b,o,none⟩) (u.block b t (fun e=>z e.symm))).trans h
theorem lC (w:World)(cs:Array Value)(z:TypeId)(g:Nat)(u:g=w.heap.size):∀j s,cs.toList[j]?=some s→(w.alloc (.cells cs z)).cell? ((⟨g,0,none⟩:Addr).add j)=some s:=by
 subst u;intro j s h;have t:(⟨w.heap.size,0,none⟩:Addr).add j=⟨w.heap.size,j,none⟩:=by unfold Addr.add;split<;>simp_all
 rw[t,World.cell?_alloc_new];simpa using h
theorem sl (w:World)(cs:Array Value)(s:TypeId)(g:Nat)(u:g=w.heap.size):∀j t,cs.toList[j]?=some t→(w.alloc (.cells cs s)).drew.cell? ((⟨g,0,none⟩:Addr).add j)=some t:=lC w cs s g u
theorem World.e6 (w:World)(n:Nat):(w.drewN n).heap.size=w.heap.size:=rfl
theorem World.a6 (w:World):w.drew.heap.size=w.heap.size:=rfl
theorem World.size_setCell (w:World)(a:Addr)(v:Value):(w.setCell a v).heap.size=w.heap.size:=by simp[World.setCell]
theorem World.size_alloc (w:World)(o:Obj):(w.alloc o).heap.size=w.heap.size+1:=by simp
theorem yk {P:Program}(w:World)(T:Nat)(u I e:TypeId)(i:TypeInfo)(Q:Value)(size bytes:Nat)(W:P.underlying u=some (.slice e))(hi:P.info? e=some i)(Y:i.zero=some Q)
  (al:i.size=size) (ah:i.bytes=bytes) (a3:Q.cells.size=size) (a2:0<size)
  (v:Value) (n:Nat) (O:List Value) (V:w.ownsRow T e size v n O)
  (a:Addr) (m c:Nat) (news:List Value) (D:news.length=m*size) (U:∀j z,news[j]?=some z→w.cell? (a.add j)=some z) (ab:∀z∈news,z.oneCell'=true)
  (ad:n+m≤maxLen) (X:(n+m)*bytes≤140737488355328) (ay:T≤w.heap.size) :
  ∃J N,(Builtin.append_ #[u,u] I #[v,.slice (some a) m c]).run P w=.ok J N∧N.ownsRow T e size J (n+m) (O++news)∧w.grownBy N v.ownBlock ∧
   (∀k,J.ownBlock=some k→v.ownBlock=some k∨w.heap.size≤k):=by
 obtain⟨J,N,s,am,av,aw⟩:=run_append_own (P:=P) w T u I e i Q size bytes W hi Y al ah a3 a2 v n O V a m c news D U ab ad X ay
 refine⟨J,N,s,am,av,?_⟩
 subst al
 subst ah
 have J:n+m≤9223372036854775807:=by simp only[maxLen]at ad;omega
 rcases V.2 with⟨rfl,rfl⟩|⟨g,cap,Z,rfl,J,a1,T,N,a0,ad⟩
 ·by_cases hm:m=0
  ·rw[aw.2 ⟨rfl,hm⟩];intro k t;simp[Value.ownBlock]at t
  ·have E:=run_append_nil (P:=P) w u I e i Q W hi Y a m c news D U (by omega) (by omega) (by have ax:=X;simp only[iD]at ax;omega);rw[E]at s;simp only[Result.ok.injEq]at s;rw[←s.1];intro k t;simp[Value.ownBlock]at t;right;omega
 ·by_cases J:n+m≤cap
  ·have N:n*i.size+news.length≤Z.size:=(by rw[D,a0,←Nat.add_mul];exact Nat.mul_le_mul_right _ J);have E:=run_append_room (P:=P) w u I e i W hi g n cap Z a1 a m c news D U ab J N;rw[E]at s;simp only[Result.ok.injEq]at s;rw[←s.1];intro k t;exact .inl t
  ·have holds:∀j z,O[j]?=some z→w.cell? ((⟨g,0,none⟩:Addr).add j)=some z:=V.cells (g:=g) rfl;have E:=run_append_grow (P:=P) w u I e i Q W hi Y ⟨g,0,none⟩ n cap O V.1 holds a m c news D U (by omega) (by omega) (growslice_fits (by omega) X);rw[E]at s;simp only[Result.ok.injEq]at s;rw[←s.1];intro k t;simp[Value.ownBlock]at t;right;omega
theorem qD {P:Program}{o:Oper}{a:Act}{w:World}{K:Act→World→Prop}{N:Exit→Act→World→Prop}(D x:Operand)(z:TypeId)
  (ad:o.op=.call { callee:=.builtin .append,args:=#[D,x],argTypes:=#[z,z] })
  (u:Nat) (e:TypeId) (i:TypeInfo) (J:Value) (size bytes:Nat) (aw:P.underlying z=some (.slice e)) (hi:P.info? e=some i) (ay:i.zero=some J)
  (am:i.size=size) (X:i.bytes=bytes) (a0:J.cells.size=size) (av:0<size)
  (v:Value) (n:Nat) (I:List Value) (hs:a.eval D=v) (ah:w.ownsRow u e size v n I)
  (E:Addr) (m c:Nat) (news:List Value) (ax:a.eval x=.slice (some E) m c) (Z:news.length=m*size) (ab:∀j D,news[j]?=some D→w.cell? (E.add j)=some D) (O:∀D∈news,D.oneCell'=true)
  (V:n+m≤maxLen) (Y:(n+m)*bytes≤140737488355328) (W:u≤w.heap.size)
  (h:∀s t,t.ownsRow u e size s (n+m) (I++news)→w.grownBy t v.ownBlock→(∀k,s.ownBlock=some k→v.ownBlock=some k∨w.heap.size≤k)→K (a.put o.dst s) t):o.wp P a w K N:=by
 obtain⟨s,t,al,Q,T,U⟩:=yk (P:=P) w u z o.type e i J size bytes aw hi ay am X a0 av v n I ah E m c news Z ab O V Y W
 unfold Oper.wp execOp
 simp only[ad,resolve,invoke,builtin,Sem.run_bind,Sem.run_pure,Result.andThen_ok,List.map_toArray,List.map_cons,List.map_nil,hs,ax,al]
 exact h s t Q T U
theorem yY {P:Program}{N:Array Oper}{o:Oper}{a:Act}{w:World}{K:Act→World→Prop}{Q:Exit→Act→World→Prop}{O:Prop}
  (Y:o.guard=none) (D x:Operand) (t:TypeId) (ad:o.op=Op.call { callee:=Callee.builtin Builtin.append,args:=#[D,x],argTypes:=#[t,t] })
  (s:Nat) (e:TypeId) (i:TypeInfo) (J:Value) (size bytes:Nat) (av:P.underlying t=some (.slice e)) (hi:P.info? e=some i) (ay:i.zero=some J)
  (al:i.size=size) (W:i.bytes=bytes) (a0:J.cells.size=size) (am:0<size)
  (v:Value) (n:Nat) (I:List Value) (hs:a.eval D=v) (ah:w.ownsRow s e size v n I)
  (z:Addr) (m c:Nat) (news:List Value) (ax:a.eval x=.slice (some z) m c) (Z:news.length=m*size) (ab:∀j u,news[j]?=some u→w.cell? (z.add j)=some u) (T:∀u∈news,u.oneCell'=true)
  (U:n+m≤maxLen) (X:(n+m)*bytes≤140737488355328) (V:s≤w.heap.size)
  (h:∀u E,E.ownsRow s e size u (n+m) (I++news)→w.grownBy E v.ownBlock→(∀k,u.ownBlock=some k→v.ownBlock=some k∨w.heap.size≤k)→K (a.put o.dst u) E) :
  if Region.wanted o (yielded N a.tmps)=true then Oper.wp P o a w K Q else O:=by
 have aw:Region.wanted o (yielded N a.tmps)=true:=by simp[Region.wanted,Y]
 rw[ai aw]
 exact qD D x t ad s e i J size bytes av hi ay al W a0 am v n I hs ah z m c news ax Z ab T U X V h
theorem qC {P:Program}{O:Array Oper}{rest:List Oper}{o:Oper}{a:Act}{w:World}{N:Exit→Act→World→Prop}(X:o.guard=none)(E x:Operand)(z:TypeId)
  (ab:o.op=.call { callee:=.builtin .append,args:=#[E,x],argTypes:=#[z,z] })
  (u:Nat) (e:TypeId) (i:TypeInfo) (J:Value) (size bytes:Nat) (am:P.underlying z=some (.slice e)) (hi:P.info? e=some i) (aw:i.zero=some J)
  (ah:i.size=size) (V:i.bytes=bytes) (ax:J.cells.size=size) (al:0<size)
  (v:Value) (n:Nat) (I:List Value) (hs:a.eval E=v) (ad:w.ownsRow u e size v n I)
  (D:Addr) (m c:Nat) (news:List Value) (av:a.eval x=.slice (some D) m c) (Y:news.length=m*size) (Z:∀j s,news[j]?=some s→w.cell? (D.add j)=some s) (Q:∀s∈news,s.oneCell'=true)
  (T:n+m≤maxLen) (W:(n+m)*bytes≤140737488355328) (U:u≤w.heap.size)
  (h:∀s t,t.ownsRow u e size s (n+m) (I++news)→w.grownBy t v.ownBlock→(∀k,s.ownBlock=some k→v.ownBlock=some k∨w.heap.size≤k)→wpList P O N rest (a.put o.dst s) t):wpList P O N (o::rest) a w:=
 wpList_plain X fun _ N=>qD E x z ab u e i J size bytes am hi aw ah V ax al v n I hs ad D m c news av Y Z Q T W U fun s t u z D=>N _ _ (h s t u z D)
def gm (r:Rec):List Value:=
 [.int .u8 r.ad,.int .u8 r.top,.int .u8 r.J,.int .u8 r.lo.tag,.int .u32 r.lo.to,.int .u8 r.hi.tag,.int .u32 r.hi.to]
def eE:Option Rec→List Value
 |some r=>gm r++[.bool true,.int .i64 0]
 |none=>gm Rec.zero++[.bool false,.int .i64 0]
def cu:Option (Rec×Int)→List Value
 |some (r,id)=>gm r++[.int .u32 id,.bool true]
 |none=>gm Rec.zero++[.int .u32 0,.bool false]
def aS:Option Rec→Rec
 |some r=>r
 |none=>Rec.zero
def iH:Option Rec→Bool
 |some _=>true
 |none=>false
theorem lB (c:Option Rec):(eE c).length=9:=by cases c<;>rfl
theorem gq (c:Option (Rec×Int)):(cu c).length=9:=by cases c<;>rfl
theorem lN {s:Type}(f:s→List Value)(k:Nat)(t:∀x,(f x).length=k)(l:List s):(l.flatMap f).length=l.length*k:=by
 induction l with
 |nil=>simp
 |cons x l u=>simp[List.flatMap_cons,u,t,Nat.succ_mul,ka]
theorem gK {u:Type}(f:u→List Value)(k:Nat)(t:∀x,(f x).length=k)(l:List u)(i j:Nat)(x:u)(s:l[i]?=some x)(z:j<k) :
  (l.flatMap f)[i*k+j]?=(f x)[j]?:=by
 induction l generalizing i with
 |nil=>simp at s
 |cons y l D=>
  cases i with
  |zero=>
   simp at s;subst s;simp only[List.flatMap_cons,Nat.zero_mul,iD];rw[j7 (by rw[t];exact z)]
  |succ i=>
   simp only[List.flatMap_cons];rw[j8 (by rw[t,Nat.succ_mul];omega),t];rw[show(i+1)*k+j-k=i*k+j by rw[Nat.succ_mul];omega];exact D i (by simpa using s)
def fw (w:World)(b o:Nat):List Value→World
 |[]=>w
 |v::vs=>fw (w.setCell ⟨b,o,none⟩ v) b (o+1) vs
theorem mH (b:Nat)(vs:List Value):∀(o:Nat) (w:World),af (fun k=>k=b) w (fw w b o vs):=by
 induction vs with
 |nil=>exact fun _ w=>af.refl _ w
 |cons v vs s=>exact fun o w=>af.bd (af.setCell (F:=fun k=>k=b) (p:=⟨b,o,none⟩) (af.refl _ w) (Or.inl rfl) v) (s (o+1) _)
theorem yt (b:Nat)(vs:List Value):∀(o:Nat) (w:World) (s:Array Value) (z:TypeId),w.heap[b]?=some (.cells s z (0,0)) →
  ∃t,(fw w b o vs).heap[b]?=some (.cells t z (0,0))∧t.size=s.size∧(∀j,(j<o∨o+vs.length≤j)→t[j]?=s[j]?)∧(∀j,j<vs.length→o+vs.length≤s.size→t[o+j]?=vs[j]?):=by
 induction vs with
 |nil=>exact fun o w s z h=>⟨s,h,rfl,fun _ _=>rfl,fun j u=>by simp at u⟩
 |cons v vs N=>
  intro o w s z h;obtain⟨t,E,I,D,J⟩:=N (o+1) _ _ z (heap_setCell_same w b o s z v h);refine⟨t,E,by simpa using I,fun j u=>?_,fun j u hs=>?_⟩
  ·rw[D j (by simp only[eN]at u;omega)];rw[ia,ag (by simp only[eN]at u;omega)]
  ·cases j with
   |zero=>
    rw[gH,D o (by omega),ia,ai rfl,ai (by simp only[eN]at hs;omega)];rfl
   |succ j=>
    have:=J j (by simp only[eN]at u;omega) (by simp only[eN]at hs;simp;omega);rw[show o+(j+1)=o+1+j by omega,this];rfl
theorem mG {z:Type}(f:z→List Value)(s:∀x,(f x).length=9){w:World}{D:Nat}{e:TypeId}{b n cap:Nat}{l:List z}(ah:l.length=n)
  (h:w.ownsRow D e 9 (.slice (some ⟨b,0,none⟩) n cap) n (l.flatMap f)) (i:Nat) (hi:i<n) (x:z) :
  (fw w b (i*9) (f x)).ownsRow D e 9 (.slice (some ⟨b,0,none⟩) n cap) n ((l.set i x).flatMap f):=by
 subst ah
 refine⟨by rw[lN f 9 s,de],?_⟩
 rcases h.2 with⟨ad,_⟩|⟨g',z,E,T,Y,ab,O,Z,I,al⟩
 ·simp at ad
 ·simp only[Value.slice.injEq,Option.some.injEq,Addr.mk.injEq,and_true,true_and]at T;obtain⟨rfl,rfl⟩:=T;obtain⟨W,am,av,U,V⟩:=yt b (f x) (i*9) w E e ab;rw[s]at U V;have z:l.length*9≤E.size:=by rw[I];exact Nat.mul_le_mul_right _ O
  refine .inr ⟨b,cap,W,rfl,Y,am,O,Z,av.trans I,?_⟩;apply List.ext_getElem?;intro j;by_cases u:j<l.length*9
  ·have N:j=j / 9*9+j%9:=(by omega);rw[ic,ai u,Array.getElem?_toList];have Q:j / 9<l.length:=(by omega);by_cases J:j / 9=i
   ·have t:(l.set i x)[j / 9]?=some x:=(by rw[J];simp[hi]);have:=gK f 9 s (l.set i x) (j / 9) (j%9) x t (by omega);rw[←N]at this;rw[this,show j=i*9+j%9 by omega];have:=V (j%9) (by omega) (by omega);rw[this,show(i*9+j%9)%9=j%9 by omega]
   ·have X:l[j / 9]?=some l[j / 9]:=(by simp[Q]);have t:(l.set i x)[j / 9]?=some l[j / 9]:=(by simp[List.getElem?_set,Ne.symm J,Q]);have z:=gK f 9 s (l.set i x) (j / 9) (j%9) _ t (by omega);have t:=gK f 9 s l (j / 9) (j%9) _ X (by omega);rw[←N]at z t;rw[z,U j (by omega),←t,←al,ic,ai u,Array.getElem?_toList]
  ·rw[ic,ag u,eT];rw[lN f 9 s,de];omega
theorem kp {w s:World}(h:ae w s:=by(repeat (first|with_reducible exact ae.refl _|with_reducible assumption|with_reducible refine ae.alloc ?_ _|with_reducible refine ae.drewN ?_ _|with_reducible refine ae.drew ?_|refine ae.setCell ?_ (by dsimp only;omega) _|with_reducible refine ae.trans ?_ (by assumption)))):ae w s:=h
theorem up {F:Nat→Prop}{w s:World}(h:af F w s:=by(repeat (first|with_reducible exact af.refl _ _|with_reducible assumption|with_reducible exact ae.upd (by assumption) _|with_reducible refine af.alloc ?_ _|with_reducible refine af.drewN ?_ _|with_reducible refine af.drew ?_|refine af.setCell ?_ (Or.inl (by first|rfl|assumption)) _|refine af.setCell ?_ (Or.inr (by dsimp only;omega)) _|with_reducible refine af.bd ?_ (by assumption)|with_reducible refine af.bd ?_ (ae.upd (by assumption) _)))):af F w s:=h
theorem ae.I {w s:World}(h:ae w s){a:Addr}{v:Value}(t:w.cell? a=some v:=by simp[go_sem]):s.cell? a=some v:=h.cell t
theorem aa {p:Prop}(h:p):Hid p:=Lib.hid h
def ak:=@World.size_alloc
def aA:=@World.size_setCell
def aU:=@Calls.quiet_of_same
def bP:=@World.frozen?_setCell
def an:=@bodyPost_ret
def look (cs:List (Option Rec))(id:Int):Option Rec:=if id<2 then none else(cs[(id-2).toNat]?).join
structure dW (F:Nat→Prop)(w:World)(ab:Nat)(cs:List (Option Rec))(gone:List Int)(cnt room:Int):Prop where
 h9:∃cv fv,w.heap[ab]?=some (.cells #[cv,fv,.int .i64 cnt,.int .i64 room] 194 (0,0)) ∧
  w.ownsRow 0 271 9 cv cs.length (cs.flatMap eE)∧w.ownsRow 0 50 1 fv gone.length (gone.map (Value.int .u32)) ∧
  (∀k,cv.ownBlock=some k→F k)∧(∀k,fv.ownBlock=some k→F k)
 own:F ab
 cp:cs.length≤1048576
 sum:cnt+gone.length=cs.length
 h5:0≤cnt
 top:room≤1048576
 h8:∀id∈gone,2≤id∧id-2<(cs.length:Int)
 b7:∀r,some r∈cs→r.ok
theorem cU {w:World}{u:Nat}{e:TypeId}{size:Nat}{v:Value}{n:Nat}{D:List Value}(h:w.ownsRow u e size v n D){k:Nat}(t:v.ownBlock=some k) :
  ∃s,w.heap[k]?=some (.cells s e (0,0)):=by
 rcases h.2 with⟨rfl,_⟩|⟨g,cap,s,rfl,_,z,_⟩
 ·simp[Value.ownBlock]at t
 ·simp[Value.ownBlock]at t;subst t;exact⟨s,z⟩
theorem eU {w:World}{a b:Nat}{x y:Array Value}{t u:TypeId}{p q:Nat×Nat}(z:w.heap[a]?=some (.cells x t p))(s:w.heap[b]?=some (.cells y u q))(D:t≠u):a≠b:=by
 intro e;subst e;rw[z]at s;simp at s;exact D s.2.1
theorem dW.keep {F G:Nat→Prop}{w u:World}{s:Nat}{cs:List (Option Rec)}{gone:List Int}{D room:Int}(h:dW F w s cs gone D room)(z:af G w u)(t:∀k,F k→¬G k) :
  dW F u s cs gone D room:=by
 obtain⟨⟨W,X,E,Y,Z,I,J⟩,D,N,O,Q,T,U,V⟩:=h
 exact⟨⟨W,X,(z.block s (bu E) (t _ D)).trans E,z.ca (fun k u=>t _ (I k u)) Y,z.ca (fun k u=>t _ (J k u)) Z,I,J⟩,D,N,O,Q,T,U,V⟩
theorem dW.U {F:Nat→Prop}{w s:World}{t:Nat}{cs:List (Option Rec)}{gone:List Int}{u room:Int}(h:dW F w t cs gone u room)(z:ae w s):dW F s t cs gone u room:=
 h.keep (z.upd (fun _=>False)) (fun _ _ h=>h)
theorem cC {cs:List (Option Rec)}{id:Int}{r:Rec}(h:look cs id=some r):2≤id∧id-2<(cs.length:Int)∧cs[(id-2).toNat]?=some (some r):=by
 unfold look at h;split at h;·cases h
 ·rename_i u
  have s:cs[(id-2).toNat]?=some (some r):=by
   cases t:cs[(id-2).toNat]? with
   |none=>simp[t]at h
   |some x=>rw[t]at h;simp at h;rw[h]
  have:=(List.getElem?_eq_some_iff.1 s).1;exact⟨by omega,by omega,s⟩
theorem vl {cs:List (Option Rec)}{id:Int}(h:look cs id=none):id<2∨(2≤id∧(cs.length:Int)≤id-2)∨(2≤id∧id-2<(cs.length:Int)∧cs[(id-2).toNat]?=some none):=by
 unfold look at h;split at h;·exact .inl (by assumption)
 ·rename_i s;by_cases s:id-2<(cs.length:Int)
  ·right;right;refine⟨by omega,s,?_⟩;have s:(id-2).toNat<cs.length:=(by omega);rw[aQ s]at h ⊢;simp at h;rw[h]
  ·exact .inr (.inl ⟨by omega,by omega⟩)
theorem dW.cell {F:Nat→Prop}{w:World}{t:Nat}{cs:List (Option Rec)}{gone:List Int}{D room:Int}(h:dW F w t cs gone D room) :
  ∃a cap,w.cell? ⟨t,0,none⟩=some (.slice a cs.length cap)∧(cs.length≠0→∃s,a=some ⟨s,0,none⟩∧s≠t∧F s ∧
   (∀i c,cs[i]?=some c→∀j,j<9→w.cell? ⟨s,i*9+j,none⟩=(eE c)[j]?)∧∀j,w.frozen? ⟨s,j,none⟩=false):=by
 obtain⟨⟨W,X,z,u,Y,E,Z⟩,D,N,O,Q,T,U,V⟩:=h
 obtain⟨a,cap,rfl,hs⟩:=gi u
 refine⟨a,cap,by rw[cell_of_row w t 0 _ _ _ z];rfl,fun J=>?_⟩
 obtain⟨s,rfl⟩:=hs J
 obtain⟨t,I⟩:=cU u (k:=s) rfl
 refine⟨s,rfl,eU I z (by decide),E s rfl,fun i c t j D=>?_,fun j=>u.frozenAt j⟩
 have hi:=(List.getElem?_eq_some_iff.1 t).1
 rw[u.cellAt (i*9+j) (by omega)]
 exact gK eE 9 lB cs i j c t D
theorem fZ {w w1:World}{a b c d e f g:Value}{s:TypeId}(h:ae (w.alloc (.cells #[a,b,c,d,e,f,g] s)) w1) :
  w1.cell? ⟨w.heap.size,0,none⟩=some a∧w1.cell? ⟨w.heap.size,1,none⟩=some b∧w1.cell? ⟨w.heap.size,2,none⟩=some c∧w1.cell? ⟨w.heap.size,3,none⟩=some d ∧
   w1.cell? ⟨w.heap.size,4,none⟩=some e∧w1.cell? ⟨w.heap.size,5,none⟩=some f∧w1.cell? ⟨w.heap.size,6,none⟩=some g:=
 ⟨h.cell (by simp),h.cell (by simp),h.cell (by simp),h.cell (by simp),h.cell (by simp),h.cell (by simp),h.cell (by simp)⟩
theorem ae.e4 {w w1:World}(h:ae w w1){k:Nat}{a b c d e f g:Value}
  (I:w.cell? ⟨k,0,none⟩=some a∧w.cell? ⟨k,1,none⟩=some b∧w.cell? ⟨k,2,none⟩=some c∧w.cell? ⟨k,3,none⟩=some d∧w.cell? ⟨k,4,none⟩=some e∧w.cell? ⟨k,5,none⟩=some f∧w.cell? ⟨k,6,none⟩=some g) :
  w1.cell? ⟨k,0,none⟩=some a∧w1.cell? ⟨k,1,none⟩=some b∧w1.cell? ⟨k,2,none⟩=some c∧w1.cell? ⟨k,3,none⟩=some d∧w1.cell? ⟨k,4,none⟩=some e∧w1.cell? ⟨k,5,none⟩=some f∧w1.cell? ⟨k,6,none⟩=some g:=by
 obtain⟨h0,s,t,u,z,D,E⟩:=I
 exact⟨h.cell h0,h.cell s,h.cell t,h.cell u,h.cell z,h.cell D,h.cell E⟩
abbrev aK:=List (Option (Rec×Int))
def aK.at (ts:aK)(i:Nat)(r:Rec)(id:Int):Prop:=ts[i]?=some (some (r,id))
def aK.has (ts:aK)(r:Rec)(id:Int):Prop:=∃i,aK.at ts i r id
def c9 (ts:aK):Nat:=ts.countP (·.isSome)
structure ep (H:Rec→Nat→Nat)(ts:aK):Prop where
 gl:∀i j r id id',aK.at ts i r id→aK.at ts j r id'→i=j
 hW:∀i r id,aK.at ts i r id→∃D,D<ts.length∧i=(H r ts.length+D)%ts.length∧∀d,d<D→∃r' id',aK.at ts ((H r ts.length+d)%ts.length) r' id'
structure Ends (H:Rec→Nat→Nat)(ts:aK)(r:Rec)(D:Nat):Prop where
 lt:D<ts.length
 go:∀d,d<D→∃r' id,ts[(H r ts.length+d)%ts.length]?=some (some (r',id))∧r'≠r
 stop:ts[(H r ts.length+D)%ts.length]?=some none∨∃id,ts[(H r ts.length+D)%ts.length]?=some (some (r,id))
theorem oV {ts:aK}(h:c9 ts<ts.length):∃e:Nat,ts[e]?=some none:=by
 unfold c9 at h
 have:¬∀x∈ts,x.isSome=true:=fun t=>by
  rw[List.countP_eq_length.2 t]at h;omega
 have:∃x∈ts,x.isSome=false:=by
  apply Classical.byContradiction;intro u
  exact this fun x s=>by
   cases hs:x.isSome with
   |true=>rfl
   |false=>exact(u ⟨x,s,hs⟩).elim
 obtain⟨x,s,hs⟩:=this;obtain⟨e,he,t⟩:=List.mem_iff_getElem.1 s;refine⟨e,?_⟩;rw[aQ he,t];cases x with
 |none=>rfl
 |some _=>simp at hs
theorem u7 {p:Nat→Prop}{n:Nat}(h:p n):∃m,m≤n∧p m∧∀d,d<m→¬p d:=by
 induction n using Nat.strongRecOn with
 |_ n D=>
  by_cases hm:∃m,m<n∧p m
  ·obtain⟨m,z,s⟩:=hm;obtain⟨k,E,t,u⟩:=D m z s;exact⟨k,by omega,t,u⟩
  ·exact⟨n,aI _,h,fun d t s=>hm ⟨d,t,s⟩⟩
theorem vT {h e len:Nat}(he:e<len):∃s,s<len∧(h+s)%len=e:=by
 have s:0<len:=by omega
 have t:=fE h s;by_cases s:h%len≤e
 ·refine⟨e-h%len,by omega,?_⟩;rw[←Nat.mod_add_mod,show h%len+(e-h%len)=e by omega,fC he]
 ·refine⟨e+len-h%len,by omega,?_⟩;rw[←Nat.mod_add_mod,show h%len+(e+len-h%len)=e+len by omega,Nat.add_mod_right,fC he]
theorem lK {H:Rec→Nat→Nat}{ts:aK}(r:Rec)(h:∃e:Nat,ts[e]?=some none):∃s,Ends H ts r s:=by
 obtain⟨e,he⟩:=h;have E:=(List.getElem?_eq_some_iff.1 he).1;have J:0<ts.length:=by omega
 obtain⟨D,I,hm⟩:=vT (h:=H r ts.length) E;obtain⟨s,N,I,E⟩:=u7 (p:=fun s=>ts[(H r ts.length+s)%ts.length]?=some none∨∃id,ts[(H r ts.length+s)%ts.length]?=some (some (r,id))) (n:=D) (.inl (by rw[hm];exact he));refine⟨s,by omega,fun d D=>?_,I⟩;have z:=E d D;have t:(H r ts.length+d)%ts.length<ts.length:=fE _ J;cases u:ts[(H r ts.length+d)%ts.length]with
 |none=>exact(z (.inl (by rw[aQ t,u]))).elim
 |some x=>
  obtain⟨s,id⟩:=x;refine⟨s,id,by rw[aQ t,u],fun e=>?_⟩;subst e;exact z (.inr ⟨id,by rw[aQ t,u]⟩)
theorem Ends.g' {H:Rec→Nat→Nat}{ts:aK}{r:Rec}{t:Nat}(h:Ends H ts r t)(E:ep H ts){id:Int}(J:aK.has ts r id):ts[(H r ts.length+t)%ts.length]?=some (some (r,id)):=by
 obtain⟨i,hi⟩:=J;obtain⟨z,J,D,Q⟩:=E.hW i r id hi;rcases h.stop with hs|⟨u,hs⟩
 ·exfalso;rcases Nat.lt_trichotomy t z with N|heq|I
  ·obtain⟨T,u,s⟩:=Q t N;unfold aK.at at s;rw[hs]at s;simp at s
  ·subst heq;unfold aK.at at hi;rw[D,hs]at hi;simp at hi
  ·obtain⟨T,u,s,O⟩:=h.go z I;unfold aK.at at hi;rw[D,s]at hi;simp at hi;exact O hi.1
 ·have:=E.gl _ _ r id u hi hs;unfold aK.at at hi;rw[←this];exact hi
theorem yy {ts:aK}{j:Nat}(s:j<ts.length)(x:Option (Rec×Int))(i:Nat):(ts.set j x)[i]?=if i=j then some x else ts[i]?:=by
 rw[List.getElem?_set];by_cases h:j=i;·subst h;simp[s]
 ·simp[h,Ne.symm h]
theorem ep.put {H:Rec→Nat→Nat}{ts:aK}(Q:ep H ts){r:Rec}{D:Nat}(he:Ends H ts r D)(J:ts[(H r ts.length+D)%ts.length]?=some none)(id:Int) :
  ep H (ts.set ((H r ts.length+D)%ts.length) (some (r,id)))∧c9 (ts.set ((H r ts.length+D)%ts.length) (some (r,id)))=c9 ts+1 ∧
   ∀t s,aK.has (ts.set ((H r ts.length+D)%ts.length) (some (r,id))) t s↔(t=r∧s=id)∨aK.has ts t s:=by
 have O:=(List.getElem?_eq_some_iff.1 J).1
 have V:∀s,¬aK.has ts r s:=fun s Y=>by rw[he.g' Q Y]at J;simp at J
 generalize Z:(H r ts.length+D)%ts.length=j at *
 have I:∀i t s,aK.at (ts.set j (some (r,id))) i t s↔(i=j∧t=r∧s=id)∨(i≠j∧aK.at ts i t s):=by
  intro i t s;unfold aK.at;rw[yy O];by_cases h:i=j
  ·simp[h];constructor;·rintro⟨rfl,rfl⟩;exact⟨rfl,rfl⟩
   ·rintro⟨rfl,rfl⟩;exact⟨rfl,rfl⟩
  ·simp[h]
 refine⟨⟨?_,?_⟩,?_,?_⟩
 ·intro a b U T ah u E;rw[I]at u E;rcases u with⟨rfl,rfl,rfl⟩|⟨X,u⟩<;>rcases E with⟨rfl,W,Y⟩|⟨al,E⟩
  ·rfl
  ·exact(V _ ⟨b,E⟩).elim
  ·subst W;exact(V _ ⟨a,u⟩).elim
  ·exact Q.gl a b U T ah u E
 ·intro i U T u;rw[I]at u;rw[de];rcases u with⟨rfl,rfl,rfl⟩|⟨X,u⟩
  ·refine⟨D,he.lt,Z.symm,fun d N=>?_⟩;obtain⟨t,s,z,D⟩:=he.go d N;refine⟨t,s,(I _ _ _).2 (.inr ⟨fun e=>?_,z⟩)⟩;rw[e,J]at z;simp at z
  ·obtain⟨D,V,W,ab⟩:=Q.hW i U T u;refine⟨D,V,W,fun d N=>?_⟩;obtain⟨t,s,z⟩:=ab d N;refine⟨t,s,(I _ _ _).2 (.inr ⟨fun e=>?_,z⟩)⟩;unfold aK.at at z;rw[e,J]at z;simp at z
 ·unfold c9
  have ad:ts[j]=none:=by
   have:=J;rw[aQ O]at this;simpa using this
  rw[List.countP_set O];simp[ad]
 ·intro t s;constructor
  ·rintro⟨i,hi⟩;rcases(I _ _ _).1 hi with⟨_,u,E⟩|⟨_,h⟩
   ·exact .inl ⟨u,E⟩
   ·exact .inr ⟨i,h⟩
  ·rintro(⟨rfl,rfl⟩|⟨i,hi⟩);·exact⟨j,(I _ _ _).2 (.inl ⟨rfl,rfl,rfl⟩)⟩
   ·refine⟨i,(I _ _ _).2 (.inr ⟨fun e=>?_,hi⟩)⟩;unfold aK.at at hi;rw[e,J]at hi;simp at hi
theorem ep.empty (H:Rec→Nat→Nat)(n:Nat):ep H (List.replicate n none)∧c9 (List.replicate n (none:Option (Rec×Int)))=0∧∀r id,¬aK.has (List.replicate n none) r id:=by
 have s:∀i r id,¬aK.at (List.replicate n none) i r id:=fun i r id h=>by
  unfold aK.at at h;have:=(List.getElem?_eq_some_iff.1 h);obtain⟨u,t⟩:=this;simp at t
 refine⟨⟨fun i j r id t h=>(s _ _ _ h).elim,fun i r id h=>(s _ _ _ h).elim⟩,?_,fun r id ⟨i,h⟩=>s i r id h⟩;unfold c9;simp[List.countP_replicate]
structure au (W0:World) where
 w:World
 keep:ae W0 w
instance (W0:World):Nonempty (au W0):=⟨⟨W0,ae.refl W0⟩⟩
theorem eJ {P:Program}{id:Nat}{u:Exit→Act→World→Prop}{a:Act}{w:World}{l:List Oper}(t:World)(hm:P.follows .mixedOrders=true)(D:Region.lexB .any l.toArray=true)(h0:ae t w)
  (h:wpQuiet P l.toArray (fun s=>∃x:au t,s=x.w) (fun z=>∀s,(∃x:au t,s=x.w)→u .normal z s) l a):(Code.region id l.toArray true).wp P u a w:=
 wp_region_quiet (C:=fun s=>∃x:au t,s=x.w) hm D ⟨⟨w.drew,h0.drew⟩,rfl⟩ (by simpa using h)
theorem Calls.b' {P:Program}{f:FuncId}{args:Array Value}{t:World}{x:au t}{v:Value}
  (h:Calls P f args x.w fun e s=>e=.returned v∧ae x.w s):Calls P f args x.w fun e z=>e=.returned v∧∃m:au t,z=m.w:=
 h.mono fun _ s ⟨he,u⟩=>⟨he,⟨s,x.keep.trans u⟩,rfl⟩
theorem Calls.c6 {P:Program}{f:FuncId}{args:Array Value}{s:World}{x:au s}{v:Value}
  (h:Calls P f args x.w fun e t=>e=.returned v∧x.w=t):Calls P f args x.w fun e u=>e=.returned v∧∃m:au s,u=m.w:=
 h.mono fun _ t ⟨he,s⟩=>⟨he,x,s.symm⟩
theorem au.cell {s:World}{a:Addr}{v:Value}(h:s.cell? a=some v)(x:au s):x.w.cell? a=some v:=x.keep.cell h
end Go.Proofs.YtafkamlhimkbmaaGreat
