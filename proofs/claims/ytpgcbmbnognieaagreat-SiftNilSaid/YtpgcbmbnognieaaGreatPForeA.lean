/-
  Plain definitions and laws: edges, records, which of them may be. No program in sight.
-/
import Derived.WalkKit
import Derived.WalkSmall
import Derived.Deep.Draws
import Derived.Deep.RegionLaw
import Derived.BigQuiet
namespace Go.Proofs.YtpgcbmbnognieaaGreat
set_option maxRecDepth 1000000
set_option maxHeartbeats 8000000
set_option linter.unusedSimpArgs false
set_option linter.unusedVariables false

structure Edge where
 tag:Int
 to:Int

structure Rec where
 form:Int
 top:Int
 bot:Int
 lo:Edge
 hi:Edge

instance:DecidableEq Edge:=fun a b=>decidable_of_iff (a.tag=b.tag∧a.to=b.to) (by cases a;cases b;simp)

instance:DecidableEq Rec:=fun a b=>decidable_of_iff (a.form=b.form∧a.top=b.top∧a.bot=b.bot∧a.lo=b.lo∧a.hi=b.hi) (by cases a;cases b;simp)

def Edge.ok (e:Edge):Prop:=(0≤e.tag∧e.tag≤255)∧(0≤e.to∧e.to≤4294967295)

structure Rec.ok (r:Rec):Prop where
 form:0≤r.form∧r.form≤255
 top:0≤r.top∧r.top≤255
 bot:0≤r.bot∧r.bot≤255
 lo:r.lo.ok
 hi:r.hi.ok

def Edge.zero:Edge:=⟨0,0⟩

def Rec.zero:Rec:=⟨0,0,0,⟨0,0⟩,⟨0,0⟩⟩

def isFormB (f:Int):Bool:=decide (1≤f)&&decide (f≤5)

def mayB (n:Int):Bool:=decide (0≤n)&&decide (n≤16)

def chainedB (f:Int):Bool:=f==3||f==4

def plainB (f:Int)(e:Edge)(l n:Int):Bool:=
 if !isFormB f||!mayB n||decide (l<0)||decide (n<l) then false
 else if f != 5||e.to==0 then e.tag==0
 else decide (l≤e.tag)&&decide (e.tag≤n)

def rightB (r:Rec)(n:Int):Bool:=
 if !isFormB r.form||!mayB n||decide (r.bot<r.top)||decide (n≤r.bot)||r.top != r.bot&&!chainedB r.form then false
 else if !plainB r.form r.lo (r.bot+1) n||!plainB r.form r.hi (r.bot+1) n then false
 else if r.form==2||r.form==4 then r.hi.to != 0
 else !(r.lo.tag==r.hi.tag&&r.lo.to==r.hi.to)

open Go.RowKit

def Keeps (w w':World):Prop:=Below w.heap.size w w'

theorem Keeps.refl (w:World):Keeps w w:=Below.refl _ _

theorem Keeps.trans {a b c:World}(h:Keeps a b)(k:Keeps b c):Keeps a c:=Below.trans h (Below.mono k h.size)

theorem Keeps.alloc {a b:World}(h:Keeps a b)(o:Obj):Keeps a (b.alloc o):=Below.alloc h h.size o

theorem Keeps.drew {a b:World}(h:Keeps a b):Keeps a b.drew:=Below.drew h

theorem Keeps.drewN {a b:World}(h:Keeps a b)(n:Nat):Keeps a (b.drewN n):=below_drewN h n

theorem Keeps.setCell {a b:World}(h:Keeps a b){p:Addr}(hp:a.heap.size≤p.block)(u:Value):Keeps a (b.setCell p u):=Below.setCell h hp u

theorem Keeps.cells {W w1:World}(hb:Keeps W w1):(∀ b o,b<W.heap.size→w1.cell? ⟨b,o,none⟩=W.cell? ⟨b,o,none⟩)∧(∀ b o,b<W.heap.size→w1.frozen? ⟨b,o,none⟩=W.frozen? ⟨b,o,none⟩):=
 ⟨fun b o h=>Below.cell hb (p:=⟨b,o,none⟩) h,fun b o h=>Below.frozen hb (p:=⟨b,o,none⟩) h⟩

theorem lt_of_cell {w:World}{a:Addr}{v:Value}(h:w.cell? a=some v):a.block<w.heap.size:=World.block_lt_of_cell? w a h

theorem Keeps.cell {w w':World}(h:Keeps w w'){a:Addr}{v:Value}(hc:w.cell? a=some v):w'.cell? a=some v:=(Below.cell h (lt_of_cell hc)).trans hc

theorem lt_of_heap {w:World}{k:Nat}{o:Obj}(h:w.heap[k]?=some o):k<w.heap.size:=lt_of_block h

theorem Keeps.heap {w w':World}(h:Keeps w w'){k:Nat}{o:Obj}(hc:w.heap[k]?=some o):w'.heap[k]?=some o:=(h.block k (lt_of_heap hc)).trans hc

structure Upd (F:Nat→Prop)(w w':World):Prop where
 os:w'.os=w.os
 tape:w'.tape=w.tape
 output:w'.output=w.output
 size:w.heap.size≤w'.heap.size
 block:∀ k,k<w.heap.size→¬F k→w'.heap[k]?=w.heap[k]?

theorem Keeps.upd {w w':World}(h:Keeps w w')(F:Nat→Prop):Upd F w w':=⟨h.os,h.tape,h.output,h.size,fun k hk _=>h.block k hk⟩

theorem Upd.refl (F:Nat→Prop)(w:World):Upd F w w:=⟨rfl,rfl,rfl,Nat.le_refl _,fun _ _ _=>rfl⟩

def Grow (F:Nat→Prop)(w w':World):Nat→Prop:=fun k=>F k∨(w.heap.size≤k∧k<w'.heap.size)

theorem Upd.trans {F:Nat→Prop}{a b c:World}(h:Upd F a b)(k:Upd (Grow F a b) b c):Upd F a c:=
 ⟨k.os.trans h.os,k.tape.trans h.tape,k.output.trans h.output,Nat.le_trans h.size k.size,fun i hi hf=>
  (k.block i (Nat.lt_of_lt_of_le hi h.size) (fun hg=>by rcases hg with hg|hg;exact hf hg;omega)).trans (h.block i hi hf)⟩

theorem Upd.trans' {F:Nat→Prop}{a b c:World}(h:Upd F a b)(k:Upd F b c):Upd F a c:=
 ⟨k.os.trans h.os,k.tape.trans h.tape,k.output.trans h.output,Nat.le_trans h.size k.size,fun i hi hf=>
  (k.block i (Nat.lt_of_lt_of_le hi h.size) hf).trans (h.block i hi hf)⟩

theorem Upd.mono {F G:Nat→Prop}{w w':World}(h:Upd F w w')(hfg:∀ k,k<w.heap.size→F k→G k):Upd G w w':=
 ⟨h.os,h.tape,h.output,h.size,fun k hk hg=>h.block k hk (fun hf=>hg (hfg k hk hf))⟩

theorem Upd.keeps {F:Nat→Prop}{w w':World}(h:Upd F w w')(hf:∀ k,k<w.heap.size→¬F k):Keeps w w':=
 ⟨h.os,h.tape,h.output,h.size,fun k hk=>h.block k hk (hf k hk)⟩

theorem Upd.setCell {F:Nat→Prop}{a b:World}(h:Upd F a b){p:Addr}(hp:F p.block∨a.heap.size≤p.block)(u:Value):Upd F a (b.setCell p u):=
 ⟨h.os,h.tape,h.output,by simpa [World.setCell] using h.size,fun k hk hf=>by
  rw [Below.heap_setCell _ _ _ _ (fun e=>by subst e;rcases hp with hp|hp;exact hf hp;omega)];exact h.block k hk hf⟩

theorem Upd.alloc {F:Nat→Prop}{a b:World}(h:Upd F a b)(o:Obj):Upd F a (b.alloc o):=
 ⟨h.os,h.tape,h.output,by have:=h.size;simp;omega,fun k hk hf=>by
  rw [Below.heap_alloc _ _ _ (Nat.lt_of_lt_of_le hk h.size)];exact h.block k hk hf⟩

theorem Upd.drewN {F:Nat→Prop}{a b:World}(h:Upd F a b)(n:Nat):Upd F a (b.drewN n):=⟨h.os,h.tape,h.output,h.size,h.block⟩

theorem Upd.drew {F:Nat→Prop}{a b:World}(h:Upd F a b):Upd F a b.drew:=⟨h.os,h.tape,h.output,h.size,h.block⟩

theorem Upd.grown {F:Nat→Prop}{a b c:World}{row:Option Nat}(h:Upd F a b)(hg:b.grownBy c row)(hr:∀ k,row=some k→F k∨a.heap.size≤k):Upd F a c:=
 ⟨hg.os.trans h.os,hg.tape.trans h.tape,hg.output.trans h.output,Nat.le_trans h.size hg.size,fun k hk hf=>
  (hg.block k (Nat.lt_of_lt_of_le hk h.size) (fun e=>by rcases hr k e.symm with hr|hr;exact hf hr;omega)).trans (h.block k hk hf)⟩

theorem Upd.owns {F:Nat→Prop}{w W:World}(h:Upd F w W){base:Nat}{e:TypeId}{size:Nat}{v:Value}{n:Nat}{xs:List Value}
  (hf:∀ k,v.ownBlock=some k→¬F k) (hown:w.ownsRow base e size v n xs):W.ownsRow base e size v n xs:=by
 refine⟨hown.1,?_⟩
 rcases hown.2 with hn|⟨g,cap,cur,rfl,hb,hgg,rest⟩
 ·exact .inl hn
 ·refine .inr ⟨g,cap,cur,rfl,hb,?_,rest⟩
  rw [h.block g (lt_of_heap hgg) (hf g rfl)]
  exact hgg

theorem Keeps.owns {w W:World}(h:Keeps w W){base:Nat}{e:TypeId}{size:Nat}{v:Value}{n:Nat}{xs:List Value}
  (hown:w.ownsRow base e size v n xs):W.ownsRow base e size v n xs:=Upd.owns (h.upd (fun _=>False)) (fun _ _ h=>h) hown

theorem owns_shape {w:World}{base:Nat}{e:TypeId}{size:Nat}{v:Value}{n:Nat}{xs:List Value}(hown:w.ownsRow base e size v n xs)(hn:0<n) :
  ∃ g cap,v=.slice (some ⟨g,0,none⟩) n cap:=by
 rcases hown.2 with⟨_,h⟩|⟨g,cap,_,h,_⟩
 ·omega
 ·exact⟨g,cap,h⟩

theorem owns_slice {w:World}{base:Nat}{e:TypeId}{size:Nat}{v:Value}{n:Nat}{xs:List Value}(hown:w.ownsRow base e size v n xs) :
  ∃ a cap,v=.slice a n cap∧(n≠0→∃ g,a=some ⟨g,0,none⟩):=by
 rcases hown.2 with⟨h,hn⟩|⟨g,cap,_,h,_⟩
 ·exact⟨none,0,by rw [h,hn],fun h=>(h hn).elim⟩
 ·exact⟨_,cap,h,fun _=>⟨g,rfl⟩⟩

theorem grown_cell {w w':World}{row:Option Nat}(hg:w.grownBy w' row){b o:Nat}{v:Value}(hne:row≠some b)(h:w.cell? ⟨b,o,none⟩=some v):w'.cell? ⟨b,o,none⟩=some v:=
 hg.cell h (fun e=>hne e.symm)

theorem grown_frozen {w w':World}{row:Option Nat}(hg:w.grownBy w' row){b o:Nat}(hb:b<w.heap.size)(hne:row≠some b)(h:w.frozen? ⟨b,o,none⟩=false):w'.frozen? ⟨b,o,none⟩=false:=
 (World.frozen?_of_block (a:=⟨b,o,none⟩) (hg.block b hb (fun e=>hne e.symm))).trans h

theorem cell_new (w:World)(cs:Array Value)(t:TypeId)(g:Nat)(hg:g=w.heap.size):∀ j u,cs.toList[j]?=some u→(w.alloc (.cells cs t)).cell? ((⟨g,0,none⟩:Addr).add j)=some u:=by
 subst hg
 intro j u h
 have hadd:(⟨w.heap.size,0,none⟩:Addr).add j=⟨w.heap.size,j,none⟩:=by unfold Addr.add;split<;>simp_all
 rw [hadd,World.cell?_alloc_new]
 simpa using h

theorem cell_newd (w:World)(cs:Array Value)(t:TypeId)(g:Nat)(hg:g=w.heap.size):∀ j u,cs.toList[j]?=some u→(w.alloc (.cells cs t)).drew.cell? ((⟨g,0,none⟩:Addr).add j)=some u:=cell_new w cs t g hg

theorem World.size_drewN (w:World)(n:Nat):(w.drewN n).heap.size=w.heap.size:=rfl

theorem World.size_drew (w:World):w.drew.heap.size=w.heap.size:=rfl

theorem World.size_setCell (w:World)(a:Addr)(v:Value):(w.setCell a v).heap.size=w.heap.size:=by simp [World.setCell]

theorem World.size_alloc (w:World)(o:Obj):(w.alloc o).heap.size=w.heap.size+1:=by simp

theorem run_append_fresh {P:Program}(w:World)(base:Nat)(t ty e:TypeId)(i:TypeInfo)(z:Value)(size bytes:Nat)(ht:P.underlying t=some (.slice e))(hi:P.info? e=some i)(hz:i.zero=some z)
  (hsize:i.size=size) (hby:i.bytes=bytes) (hzs:z.cells.size=size) (hsz:0<size)
  (v:Value) (n:Nat) (xs:List Value) (hown:w.ownsRow base e size v n xs)
  (a:Addr) (m c:Nat) (news:List Value) (hl:news.length=m*size) (hnews:∀ j u,news[j]?=some u→w.cell? (a.add j)=some u) (h1:∀ u∈news,u.oneCell'=true)
  (h63:n+m≤maxLen) (hbytes:(n+m)*bytes≤140737488355328) (hbase:base≤w.heap.size) :
  ∃ v' w',(Builtin.append_ #[t,t] ty #[v,.slice (some a) m c]).run P w=.ok v' w'∧w'.ownsRow base e size v' (n+m) (xs++news)∧w.grownBy w' v.ownBlock ∧
   (∀ k,v'.ownBlock=some k→v.ownBlock=some k∨w.heap.size≤k):=by
 obtain⟨v',w',hr,h2,h3,h4⟩:=run_append_own (P:=P) w base t ty e i z size bytes ht hi hz hsize hby hzs hsz v n xs hown a m c news hl hnews h1 h63 hbytes hbase
 refine⟨v',w',hr,h2,h3,?_⟩
 subst hsize
 subst hby
 have hsmall:n+m≤9223372036854775807:=by simp only [maxLen] at h63;omega
 rcases hown.2 with⟨rfl,rfl⟩|⟨g,cap,cur,rfl,hbg,hg,hnc,hcm,hcs,htake⟩
 ·by_cases hm:m=0
  ·rw [h4.2 ⟨rfl,hm⟩]
   intro k hk
   simp [Value.ownBlock] at hk
  ·have hr2:=run_append_nil (P:=P) w t ty e i z ht hi hz a m c news hl hnews (by omega) (by omega) (by have hb:=hbytes;simp only [Nat.zero_add] at hb;omega)
   rw [hr2] at hr
   simp only [Result.ok.injEq] at hr
   rw [← hr.1]
   intro k hk
   simp [Value.ownBlock] at hk
   right;omega
 ·by_cases hroom:n+m≤cap
  ·have hfit:n*i.size+news.length≤cur.size:=by rw [hl,hcs,← Nat.add_mul];exact Nat.mul_le_mul_right _ hroom
   have hr2:=run_append_room (P:=P) w t ty e i ht hi g n cap cur hg a m c news hl hnews h1 hroom hfit
   rw [hr2] at hr
   simp only [Result.ok.injEq] at hr
   rw [← hr.1]
   intro k hk
   exact .inl hk
  ·have holds:∀ j u,xs[j]?=some u→w.cell? ((⟨g,0,none⟩:Addr).add j)=some u:=hown.cells (g:=g) rfl
   have hr2:=run_append_grow (P:=P) w t ty e i z ht hi hz ⟨g,0,none⟩ n cap xs hown.1 holds a m c news hl hnews (by omega) (by omega) (growslice_fits (by omega) hbytes)
   rw [hr2] at hr
   simp only [Result.ok.injEq] at hr
   rw [← hr.1]
   intro k hk
   simp [Value.ownBlock] at hk
   right;omega

theorem wp_append_fresh {P:Program}{o:Oper}{a:Act}{w:World}{K:Act→World→Prop}{Q:Exit→Act→World→Prop}(s x:Operand)(t:TypeId)
  (ho:o.op=.call { callee:=.builtin .append,args:=#[s,x],argTypes:=#[t,t] })
  (base:Nat) (e:TypeId) (i:TypeInfo) (z:Value) (size bytes:Nat) (ht:P.underlying t=some (.slice e)) (hi:P.info? e=some i) (hz:i.zero=some z)
  (hsize:i.size=size) (hby:i.bytes=bytes) (hzs:z.cells.size=size) (hsz:0<size)
  (v:Value) (n:Nat) (xs:List Value) (hs:a.eval s=v) (hown:w.ownsRow base e size v n xs)
  (ad:Addr) (m c:Nat) (news:List Value) (hx:a.eval x=.slice (some ad) m c) (hl:news.length=m*size) (hnews:∀ j u,news[j]?=some u→w.cell? (ad.add j)=some u) (h1:∀ u∈news,u.oneCell'=true)
  (h63:n+m≤maxLen) (hbytes:(n+m)*bytes≤140737488355328) (hbase:base≤w.heap.size)
  (h:∀ v' w',w'.ownsRow base e size v' (n+m) (xs++news)→w.grownBy w' v.ownBlock→(∀ k,v'.ownBlock=some k→v.ownBlock=some k∨w.heap.size≤k)→K (a.put o.dst v') w'):o.wp P a w K Q:=by
 obtain⟨v',w',hr,h2,h3,h4⟩:=run_append_fresh (P:=P) w base t o.type e i z size bytes ht hi hz hsize hby hzs hsz v n xs hown ad m c news hl hnews h1 h63 hbytes hbase
 unfold Oper.wp execOp
 simp only [ho,resolve,invoke,builtin,Sem.run_bind,Sem.run_pure,Result.andThen_ok,List.map_toArray,List.map_cons,List.map_nil,hs,hx,hr]
 exact h v' w' h2 h3 h4

theorem step_append_own {P:Program}{ops:Array Oper}{o:Oper}{a:Act}{w:World}{K:Act→World→Prop}{Q:Exit→Act→World→Prop}{E:Prop}
  (hg:o.guard=none) (s x:Operand) (t:TypeId) (ho:o.op=Op.call { callee:=Callee.builtin Builtin.append,args:=#[s,x],argTypes:=#[t,t] })
  (base:Nat) (e:TypeId) (i:TypeInfo) (z:Value) (size bytes:Nat) (ht:P.underlying t=some (.slice e)) (hi:P.info? e=some i) (hz:i.zero=some z)
  (hsize:i.size=size) (hby:i.bytes=bytes) (hzs:z.cells.size=size) (hsz:0<size)
  (v:Value) (n:Nat) (xs:List Value) (hs:a.eval s=v) (hown:w.ownsRow base e size v n xs)
  (ad:Addr) (m c:Nat) (news:List Value) (hx:a.eval x=.slice (some ad) m c) (hl:news.length=m*size) (hnews:∀ j u,news[j]?=some u→w.cell? (ad.add j)=some u) (h1:∀ u∈news,u.oneCell'=true)
  (h63:n+m≤maxLen) (hbytes:(n+m)*bytes≤140737488355328) (hbase:base≤w.heap.size)
  (h:∀ v' w',w'.ownsRow base e size v' (n+m) (xs++news)→w.grownBy w' v.ownBlock→(∀ k,v'.ownBlock=some k→v.ownBlock=some k∨w.heap.size≤k)→K (a.put o.dst v') w') :
  if Region.wanted o (yielded ops a.tmps)=true then Oper.wp P o a w K Q else E:=by
 have hw:Region.wanted o (yielded ops a.tmps)=true:=by simp [Region.wanted,hg]
 rw [if_pos hw]
 exact wp_append_fresh s x t ho base e i z size bytes ht hi hz hsize hby hzs hsz v n xs hs hown ad m c news hx hl hnews h1 h63 hbytes hbase h

theorem wpList_append_fresh {P:Program}{ops:Array Oper}{rest:List Oper}{o:Oper}{a:Act}{w:World}{Q:Exit→Act→World→Prop}(hgd:o.guard=none)(s x:Operand)(t:TypeId)
  (ho:o.op=.call { callee:=.builtin .append,args:=#[s,x],argTypes:=#[t,t] })
  (base:Nat) (e:TypeId) (i:TypeInfo) (z:Value) (size bytes:Nat) (ht:P.underlying t=some (.slice e)) (hi:P.info? e=some i) (hz:i.zero=some z)
  (hsize:i.size=size) (hby:i.bytes=bytes) (hzs:z.cells.size=size) (hsz:0<size)
  (v:Value) (n:Nat) (xs:List Value) (hs:a.eval s=v) (hown:w.ownsRow base e size v n xs)
  (ad:Addr) (m c:Nat) (news:List Value) (hx:a.eval x=.slice (some ad) m c) (hl:news.length=m*size) (hnews:∀ j u,news[j]?=some u→w.cell? (ad.add j)=some u) (h1:∀ u∈news,u.oneCell'=true)
  (h63:n+m≤maxLen) (hbytes:(n+m)*bytes≤140737488355328) (hbase:base≤w.heap.size)
  (h:∀ v' w',w'.ownsRow base e size v' (n+m) (xs++news)→w.grownBy w' v.ownBlock→(∀ k,v'.ownBlock=some k→v.ownBlock=some k∨w.heap.size≤k)→wpList P ops Q rest (a.put o.dst v') w'):wpList P ops Q (o::rest) a w:=
 wpList_plain hgd fun _ hK=>wp_append_fresh s x t ho base e i z size bytes ht hi hz hsize hby hzs hsz v n xs hs hown ad m c news hx hl hnews h1 h63 hbytes hbase fun v' w' h2 h3 h4=>hK _ _ (h v' w' h2 h3 h4)

def recVals (r:Rec):List Value:=
 [.int .u8 r.form,.int .u8 r.top,.int .u8 r.bot,.int .u8 r.lo.tag,.int .u32 r.lo.to,.int .u8 r.hi.tag,.int .u32 r.hi.to]

def cellVals:Option Rec→List Value
 | some r=>recVals r++[.bool true,.int .i64 0]
 | none=>recVals Rec.zero++[.bool false,.int .i64 0]

def slotVals:Option (Rec×Int)→List Value
 | some (r,id)=>recVals r++[.int .u32 id,.bool true]
 | none=>recVals Rec.zero++[.int .u32 0,.bool false]

def grec:Option Rec→Rec
 | some r=>r
 | none=>Rec.zero

def gsome:Option Rec→Bool
 | some _=>true
 | none=>false

theorem cellVals_length (c:Option Rec):(cellVals c).length=9:=by cases c<;>rfl

theorem slotVals_length (c:Option (Rec×Int)):(slotVals c).length=9:=by cases c<;>rfl

theorem flat_length {α:Type}(f:α→List Value)(k:Nat)(hf:∀ x,(f x).length=k)(l:List α):(l.flatMap f).length=l.length*k:=by
 induction l with
 | nil=>simp
 | cons x l ih=>simp [List.flatMap_cons,ih,hf,Nat.succ_mul,Nat.add_comm]

theorem flat_get {α:Type}(f:α→List Value)(k:Nat)(hf:∀ x,(f x).length=k)(l:List α)(i j:Nat)(x:α)(hx:l[i]?=some x)(hj:j<k) :
  (l.flatMap f)[i*k+j]?=(f x)[j]?:=by
 induction l generalizing i with
 | nil=>simp at hx
 | cons y l ih=>
  cases i with
  | zero=>
   simp at hx
   subst hx
   simp only [List.flatMap_cons,Nat.zero_mul,Nat.zero_add]
   rw [List.getElem?_append_left (by rw [hf];exact hj)]
  | succ i=>
   simp only [List.flatMap_cons]
   rw [List.getElem?_append_right (by rw [hf,Nat.succ_mul];omega),hf]
   rw [show(i+1)*k+j-k=i*k+j by rw [Nat.succ_mul];omega]
   exact ih i (by simpa using hx)

def set9 (w:World)(b o:Nat):List Value→World
 | []=>w
 | v::vs=>set9 (w.setCell ⟨b,o,none⟩ v) b (o+1) vs

theorem set9_upd (b:Nat)(vs:List Value):∀ (o:Nat) (w:World),Upd (fun k=>k=b) w (set9 w b o vs):=by
 induction vs with
 | nil=>exact fun _ w=>Upd.refl _ w
 | cons v vs ih=>exact fun o w=>Upd.trans' (Upd.setCell (F:=fun k=>k=b) (p:=⟨b,o,none⟩) (Upd.refl _ w) (Or.inl rfl) v) (ih (o+1) _)

theorem set9_heap (b:Nat)(vs:List Value):∀ (o:Nat) (w:World) (cur:Array Value) (t:TypeId),w.heap[b]?=some (.cells cur t (0,0)) →
  ∃ cur',(set9 w b o vs).heap[b]?=some (.cells cur' t (0,0))∧cur'.size=cur.size∧(∀ j,(j<o∨o+vs.length≤j)→cur'[j]?=cur[j]?)∧(∀ j,j<vs.length→o+vs.length≤cur.size→cur'[o+j]?=vs[j]?):=by
 induction vs with
 | nil=>exact fun o w cur t h=>⟨cur,h,rfl,fun _ _=>rfl,fun j hj=>by simp at hj⟩
 | cons v vs ih=>
  intro o w cur t h
  obtain⟨cur',h1,h2,h3,h4⟩:=ih (o+1) _ _ t (heap_setCell_same w b o cur t v h)
  refine⟨cur',h1,by simpa using h2,fun j hj=>?_,fun j hj hs=>?_⟩
  ·rw [h3 j (by simp only [List.length_cons] at hj;omega)]
   rw [Array.getElem?_setIfInBounds,if_neg (by simp only [List.length_cons] at hj;omega)]
  ·cases j with
   | zero=>
    rw [Nat.add_zero,h3 o (by omega),Array.getElem?_setIfInBounds,if_pos rfl,if_pos (by simp only [List.length_cons] at hs;omega)]
    rfl
   | succ j=>
    have:=h4 j (by simp only [List.length_cons] at hj;omega) (by simp only [List.length_cons] at hs;simp;omega)
    rw [show o+(j+1)=o+1+j by omega,this]
    rfl

theorem set9_owns {α:Type}(f:α→List Value)(hf:∀ x,(f x).length=9){w:World}{base:Nat}{e:TypeId}{b n cap:Nat}{l:List α}(hn:l.length=n)
  (h:w.ownsRow base e 9 (.slice (some ⟨b,0,none⟩) n cap) n (l.flatMap f)) (i:Nat) (hi:i<n) (x:α) :
  (set9 w b (i*9) (f x)).ownsRow base e 9 (.slice (some ⟨b,0,none⟩) n cap) n ((l.set i x).flatMap f):=by
 subst hn
 refine⟨by rw [flat_length f 9 hf,List.length_set],?_⟩
 rcases h.2 with⟨hh,_⟩|⟨g',cap',cur,hv,hb,hg,hnc,hcm,hcs,htake⟩
 ·simp at hh
 ·simp only [Value.slice.injEq,Option.some.injEq,Addr.mk.injEq,and_true,true_and] at hv
  obtain⟨rfl,rfl⟩:=hv
  obtain⟨cur',k1,k2,k3,k4⟩:=set9_heap b (f x) (i*9) w cur e hg
  rw [hf] at k3 k4
  have hsz:l.length*9≤cur.size:=by rw [hcs];exact Nat.mul_le_mul_right _ hnc
  refine .inr ⟨b,cap,cur',rfl,hb,k1,hnc,hcm,k2.trans hcs,?_⟩
  apply List.ext_getElem?
  intro j
  by_cases hj:j<l.length*9
  ·have hjm:j=j / 9*9+j%9:=by omega
   rw [List.getElem?_take,if_pos hj,Array.getElem?_toList]
   have hq:j / 9<l.length:=by omega
   by_cases hji:j / 9=i
   ·have e1:(l.set i x)[j / 9]?=some x:=by rw [hji];simp [hi]
    have:=flat_get f 9 hf (l.set i x) (j / 9) (j%9) x e1 (by omega)
    rw [← hjm] at this
    rw [this,show j=i*9+j%9 by omega]
    have:=k4 (j%9) (by omega) (by omega)
    rw [this,show(i*9+j%9)%9=j%9 by omega]
   ·have e0:l[j / 9]?=some l[j / 9]:=by simp [hq]
    have e1:(l.set i x)[j / 9]?=some l[j / 9]:=by simp [List.getElem?_set,Ne.symm hji,hq]
    have a1:=flat_get f 9 hf (l.set i x) (j / 9) (j%9) _ e1 (by omega)
    have a0:=flat_get f 9 hf l (j / 9) (j%9) _ e0 (by omega)
    rw [← hjm] at a1 a0
    rw [a1,k3 j (by omega),← a0,← htake,List.getElem?_take,if_pos hj,Array.getElem?_toList]
  ·rw [List.getElem?_take,if_neg hj,List.getElem?_eq_none]
   rw [flat_length f 9 hf,List.length_set]
   omega

theorem kp {w w':World}(h:Keeps w w':=by(repeat (first|with_reducible exact Keeps.refl _|with_reducible assumption|with_reducible refine Keeps.alloc ?_ _|with_reducible refine Keeps.drewN ?_ _|with_reducible refine Keeps.drew ?_|refine Keeps.setCell ?_ (by dsimp only;omega) _|with_reducible refine Keeps.trans ?_ (by assumption)))):Keeps w w':=h

theorem up {F:Nat→Prop}{w w':World}(h:Upd F w w':=by(repeat (first|with_reducible exact Upd.refl _ _|with_reducible assumption|with_reducible exact Keeps.upd (by assumption) _|with_reducible refine Upd.alloc ?_ _|with_reducible refine Upd.drewN ?_ _|with_reducible refine Upd.drew ?_|refine Upd.setCell ?_ (Or.inl (by first|rfl|assumption)) _|refine Upd.setCell ?_ (Or.inr (by dsimp only;omega)) _|with_reducible refine Upd.trans' ?_ (by assumption)|with_reducible refine Upd.trans' ?_ (Keeps.upd (by assumption) _)))):Upd F w w':=h

def look (cs:List (Option Rec))(id:Int):Option Rec:=if id<2 then none else(cs[(id-2).toNat]?).join

structure ArenaRep (F:Nat→Prop)(w:World)(ab:Nat)(cs:List (Option Rec))(gone:List Int)(cnt room:Int):Prop where
 lies:∃ cv fv,w.heap[ab]?=some (.cells #[cv,fv,.int .i64 cnt,.int .i64 room] 243 (0,0)) ∧
  w.ownsRow 0 270 9 cv cs.length (cs.flatMap cellVals)∧w.ownsRow 0 23 1 fv gone.length (gone.map (Value.int .u32)) ∧
  (∀ k,cv.ownBlock=some k→F k)∧(∀ k,fv.ownBlock=some k→F k)
 own:F ab
 few:cs.length≤1048576
 sum:cnt+gone.length=cs.length
 cnt0:0≤cnt
 top:room≤1048576
 ids:∀ id∈gone,2≤id∧id-2<(cs.length:Int)
 fit:∀ r,some r∈cs→r.ok

theorem owns_type {w:World}{base:Nat}{e:TypeId}{size:Nat}{v:Value}{n:Nat}{xs:List Value}(h:w.ownsRow base e size v n xs){k:Nat}(hk:v.ownBlock=some k) :
  ∃ cur,w.heap[k]?=some (.cells cur e (0,0)):=by
 rcases h.2 with⟨rfl,_⟩|⟨g,cap,cur,rfl,_,hg,_⟩
 ·simp [Value.ownBlock] at hk
 ·simp [Value.ownBlock] at hk
  subst hk
  exact⟨cur,hg⟩

theorem ne_of_type {w:World}{a b:Nat}{x y:Array Value}{s t:TypeId}{p q:Nat×Nat}(ha:w.heap[a]?=some (.cells x s p))(hb:w.heap[b]?=some (.cells y t q))(hne:s≠t):a≠b:=by
 intro e
 subst e
 rw [ha] at hb
 simp at hb
 exact hne hb.2.1

theorem ArenaRep.keep {F G:Nat→Prop}{w W:World}{ab:Nat}{cs:List (Option Rec)}{gone:List Int}{cnt room:Int}(h:ArenaRep F w ab cs gone cnt room)(hu:Upd G w W)(hd:∀ k,F k→¬G k) :
  ArenaRep F W ab cs gone cnt room:=by
 obtain⟨⟨cv,fv,h1,h2,h3,h4,h5⟩,a2,a3,a4,a5,a6,a7,a8⟩:=h
 exact⟨⟨cv,fv,(hu.block ab (lt_of_heap h1) (hd _ a2)).trans h1,hu.owns (fun k hk=>hd _ (h4 k hk)) h2,hu.owns (fun k hk=>hd _ (h5 k hk)) h3,h4,h5⟩,a2,a3,a4,a5,a6,a7,a8⟩

theorem ArenaRep.keeps {F:Nat→Prop}{w W:World}{ab:Nat}{cs:List (Option Rec)}{gone:List Int}{cnt room:Int}(h:ArenaRep F w ab cs gone cnt room)(hu:Keeps w W):ArenaRep F W ab cs gone cnt room:=
 h.keep (hu.upd (fun _=>False)) (fun _ _ h=>h)

theorem look_some {cs:List (Option Rec)}{id:Int}{r:Rec}(h:look cs id=some r):2≤id∧id-2<(cs.length:Int)∧cs[(id-2).toNat]?=some (some r):=by
 unfold look at h
 split at h
 ·cases h
 ·rename_i h2
  have h3:cs[(id-2).toNat]?=some (some r):=by
   cases hc:cs[(id-2).toNat]? with
   | none=>simp [hc] at h
   | some x=>rw [hc] at h;simp at h;rw [h]
  have:=(List.getElem?_eq_some_iff.1 h3).1
  exact⟨by omega,by omega,h3⟩

theorem look_none {cs:List (Option Rec)}{id:Int}(h:look cs id=none):id<2∨(2≤id∧(cs.length:Int)≤id-2)∨(2≤id∧id-2<(cs.length:Int)∧cs[(id-2).toNat]?=some none):=by
 unfold look at h
 split at h
 ·exact .inl (by assumption)
 ·rename_i h2
  by_cases hl:id-2<(cs.length:Int)
  ·right;right
   refine⟨by omega,hl,?_⟩
   have hlt:(id-2).toNat<cs.length:=by omega
   rw [List.getElem?_eq_getElem hlt] at h ⊢
   simp at h
   rw [h]
  ·exact .inr (.inl ⟨by omega,by omega⟩)

theorem ArenaRep.cell {F:Nat→Prop}{w:World}{ab:Nat}{cs:List (Option Rec)}{gone:List Int}{cnt room:Int}(h:ArenaRep F w ab cs gone cnt room) :
  ∃ a cap,w.cell? ⟨ab,0,none⟩=some (.slice a cs.length cap)∧(cs.length≠0→∃ cb,a=some ⟨cb,0,none⟩∧cb≠ab∧F cb ∧
   (∀ i c,cs[i]?=some c→∀ j,j<9→w.cell? ⟨cb,i*9+j,none⟩=(cellVals c)[j]?)∧∀ j,w.frozen? ⟨cb,j,none⟩=false):=by
 obtain⟨⟨cv,fv,h1,h2,h3,h4,h5⟩,a2,a3,a4,a5,a6,a7,a8⟩:=h
 obtain⟨a,cap,rfl,hs⟩:=owns_slice h2
 refine⟨a,cap,by rw [cell_of_row w ab 0 _ _ _ h1];rfl,fun hn=>?_⟩
 obtain⟨cb,rfl⟩:=hs hn
 obtain⟨cur,hcur⟩:=owns_type h2 (k:=cb) rfl
 refine⟨cb,rfl,ne_of_type hcur h1 (by decide),h4 cb rfl,fun i c hc j hj=>?_,fun j=>h2.frozenAt j⟩
 have hi:=(List.getElem?_eq_some_iff.1 hc).1
 rw [h2.cellAt (i*9+j) (by omega)]
 exact flat_get cellVals 9 cellVals_length cs i j c hc hj

theorem box7 {w w1:World}{a b c d e f g:Value}{t:TypeId}(h:Keeps (w.alloc (.cells #[a,b,c,d,e,f,g] t)) w1) :
  w1.cell? ⟨w.heap.size,0,none⟩=some a∧w1.cell? ⟨w.heap.size,1,none⟩=some b∧w1.cell? ⟨w.heap.size,2,none⟩=some c∧w1.cell? ⟨w.heap.size,3,none⟩=some d ∧
   w1.cell? ⟨w.heap.size,4,none⟩=some e∧w1.cell? ⟨w.heap.size,5,none⟩=some f∧w1.cell? ⟨w.heap.size,6,none⟩=some g:=
 ⟨h.cell (by simp),h.cell (by simp),h.cell (by simp),h.cell (by simp),h.cell (by simp),h.cell (by simp),h.cell (by simp)⟩

theorem Keeps.cell7 {w w1:World}(h:Keeps w w1){k:Nat}{a b c d e f g:Value}
  (hb:w.cell? ⟨k,0,none⟩=some a∧w.cell? ⟨k,1,none⟩=some b∧w.cell? ⟨k,2,none⟩=some c∧w.cell? ⟨k,3,none⟩=some d∧w.cell? ⟨k,4,none⟩=some e∧w.cell? ⟨k,5,none⟩=some f∧w.cell? ⟨k,6,none⟩=some g) :
  w1.cell? ⟨k,0,none⟩=some a∧w1.cell? ⟨k,1,none⟩=some b∧w1.cell? ⟨k,2,none⟩=some c∧w1.cell? ⟨k,3,none⟩=some d∧w1.cell? ⟨k,4,none⟩=some e∧w1.cell? ⟨k,5,none⟩=some f∧w1.cell? ⟨k,6,none⟩=some g:=by
 obtain⟨h0,h1,h2,h3,h4,h5,h6⟩:=hb
 exact⟨h.cell h0,h.cell h1,h.cell h2,h.cell h3,h.cell h4,h.cell h5,h.cell h6⟩

abbrev Tab:=List (Option (Rec×Int))

def Tab.at (ts:Tab)(i:Nat)(r:Rec)(id:Int):Prop:=ts[i]?=some (some (r,id))

def Tab.has (ts:Tab)(r:Rec)(id:Int):Prop:=∃ i,Tab.at ts i r id

def occ (ts:Tab):Nat:=ts.countP (·.isSome)

structure TabOk (H:Rec→Nat→Nat)(ts:Tab):Prop where
 uniq:∀ i j r id id',Tab.at ts i r id→Tab.at ts j r id'→i=j
 reach:∀ i r id,Tab.at ts i r id→∃ D,D<ts.length∧i=(H r ts.length+D)%ts.length∧∀ d,d<D→∃ r' id',Tab.at ts ((H r ts.length+d)%ts.length) r' id'

structure Ends (H:Rec→Nat→Nat)(ts:Tab)(r:Rec)(D:Nat):Prop where
 lt:D<ts.length
 go:∀ d,d<D→∃ r' id,ts[(H r ts.length+d)%ts.length]?=some (some (r',id))∧r'≠r
 stop:ts[(H r ts.length+D)%ts.length]?=some none∨∃ id,ts[(H r ts.length+D)%ts.length]?=some (some (r,id))

theorem occ_lt {ts:Tab}(h:occ ts<ts.length):∃ e:Nat,ts[e]?=some none:=by
 unfold occ at h
 have:¬∀ x∈ts,x.isSome=true:=fun hall=>by
  rw [List.countP_eq_length.2 hall] at h
  omega
 have:∃ x∈ts,x.isSome=false:=by
  apply Classical.byContradiction
  intro hn
  exact this fun x hx=>by
   cases hs:x.isSome with
   | true=>rfl
   | false=>exact(hn ⟨x,hx,hs⟩).elim
 obtain⟨x,hx,hs⟩:=this
 obtain⟨e,he,hxe⟩:=List.mem_iff_getElem.1 hx
 refine⟨e,?_⟩
 rw [List.getElem?_eq_getElem he,hxe]
 cases x with
 | none=>rfl
 | some _=>simp at hs

theorem least_below {p:Nat→Prop}{n:Nat}(h:p n):∃ m,m≤n∧p m∧∀ d,d<m→¬p d:=by
 induction n using Nat.strongRecOn with
 | _ n ih=>
  by_cases hm:∃ m,m<n∧p m
  ·obtain⟨m,hlt,hp⟩:=hm
   obtain⟨k,hk,h1,h2⟩:=ih m hlt hp
   exact⟨k,by omega,h1,h2⟩
  ·exact⟨n,Nat.le_refl _,h,fun d hd hp=>hm ⟨d,hd,hp⟩⟩

theorem mod_reach {h e len:Nat}(he:e<len):∃ D,D<len∧(h+D)%len=e:=by
 have hpos:0<len:=by omega
 have hlt:=Nat.mod_lt h hpos
 by_cases hc:h%len≤e
 ·refine⟨e-h%len,by omega,?_⟩
  rw [← Nat.mod_add_mod,show h%len+(e-h%len)=e by omega,Nat.mod_eq_of_lt he]
 ·refine⟨e+len-h%len,by omega,?_⟩
  rw [← Nat.mod_add_mod,show h%len+(e+len-h%len)=e+len by omega,Nat.add_mod_right,Nat.mod_eq_of_lt he]

theorem ends_of {H:Rec→Nat→Nat}{ts:Tab}(r:Rec)(h:∃ e:Nat,ts[e]?=some none):∃ D,Ends H ts r D:=by
 obtain⟨e,he⟩:=h
 have hel:=(List.getElem?_eq_some_iff.1 he).1
 have hpos:0<ts.length:=by omega
 obtain⟨D0,hD0,hm⟩:=mod_reach (h:=H r ts.length) hel
 obtain⟨D,hle,hp,hmin⟩:=least_below (p:=fun D=>ts[(H r ts.length+D)%ts.length]?=some none∨∃ id,ts[(H r ts.length+D)%ts.length]?=some (some (r,id))) (n:=D0) (.inl (by rw [hm];exact he))
 refine⟨D,by omega,fun d hd=>?_,hp⟩
 have hn:=hmin d hd
 have hlt:(H r ts.length+d)%ts.length<ts.length:=Nat.mod_lt _ hpos
 cases hx:ts[(H r ts.length+d)%ts.length] with
 | none=>exact(hn (.inl (by rw [List.getElem?_eq_getElem hlt,hx]))).elim
 | some x=>
  obtain⟨r',id⟩:=x
  refine⟨r',id,by rw [List.getElem?_eq_getElem hlt,hx],fun e=>?_⟩
  subst e
  exact hn (.inr ⟨id,by rw [List.getElem?_eq_getElem hlt,hx]⟩)

theorem Ends.found {H:Rec→Nat→Nat}{ts:Tab}{r:Rec}{D:Nat}(h:Ends H ts r D)(hok:TabOk H ts){id:Int}(hh:Tab.has ts r id):ts[(H r ts.length+D)%ts.length]?=some (some (r,id)):=by
 obtain⟨i,hi⟩:=hh
 obtain⟨D',hD',hiD,hocc⟩:=hok.reach i r id hi
 rcases h.stop with hs|⟨id',hs⟩
 ·exfalso
  rcases Nat.lt_trichotomy D D' with hlt|heq|hgt
  ·obtain⟨r',id',ho⟩:=hocc D hlt
   unfold Tab.at at ho
   rw [hs] at ho
   simp at ho
  ·subst heq
   unfold Tab.at at hi
   rw [hiD,hs] at hi
   simp at hi
  ·obtain⟨r',id',ho,hne⟩:=h.go D' hgt
   unfold Tab.at at hi
   rw [hiD,ho] at hi
   simp at hi
   exact hne hi.1
 ·have:=hok.uniq _ _ r id id' hi hs
  unfold Tab.at at hi
  rw [← this]
  exact hi

theorem set_get {ts:Tab}{j:Nat}(hj:j<ts.length)(x:Option (Rec×Int))(i:Nat):(ts.set j x)[i]?=if i=j then some x else ts[i]?:=by
 rw [List.getElem?_set]
 by_cases h:j=i
 ·subst h;simp [hj]
 ·simp [h,Ne.symm h]

theorem TabOk.put {H:Rec→Nat→Nat}{ts:Tab}(hok:TabOk H ts){r:Rec}{D:Nat}(he:Ends H ts r D)(hn:ts[(H r ts.length+D)%ts.length]?=some none)(id:Int) :
  TabOk H (ts.set ((H r ts.length+D)%ts.length) (some (r,id)))∧occ (ts.set ((H r ts.length+D)%ts.length) (some (r,id)))=occ ts+1 ∧
   ∀ r' id',Tab.has (ts.set ((H r ts.length+D)%ts.length) (some (r,id))) r' id'↔(r'=r∧id'=id)∨Tab.has ts r' id':=by
 have hj:=(List.getElem?_eq_some_iff.1 hn).1
 have hno:∀ id',¬Tab.has ts r id':=fun id' hh=>by rw [he.found hok hh] at hn;simp at hn
 generalize hjj:(H r ts.length+D)%ts.length=j at *
 have hat:∀ i r' id',Tab.at (ts.set j (some (r,id))) i r' id'↔(i=j∧r'=r∧id'=id)∨(i≠j∧Tab.at ts i r' id'):=by
  intro i r' id'
  unfold Tab.at
  rw [set_get hj]
  by_cases h:i=j
  ·simp [h];constructor
   ·rintro⟨rfl,rfl⟩;exact⟨rfl,rfl⟩
   ·rintro⟨rfl,rfl⟩;exact⟨rfl,rfl⟩
  ·simp [h]
 refine⟨⟨?_,?_⟩,?_,?_⟩
 ·intro a b r1 id1 id2 h1 h2
  rw [hat] at h1 h2
  rcases h1 with⟨rfl,rfl,rfl⟩|⟨ha,h1⟩<;>rcases h2 with⟨rfl,e1,e2⟩|⟨hb,h2⟩
  ·rfl
  ·exact(hno _ ⟨b,h2⟩).elim
  ·subst e1;exact(hno _ ⟨a,h1⟩).elim
  ·exact hok.uniq a b r1 id1 id2 h1 h2
 ·intro i r1 id1 h1
  rw [hat] at h1
  rw [List.length_set]
  rcases h1 with⟨rfl,rfl,rfl⟩|⟨ha,h1⟩
  ·refine⟨D,he.lt,hjj.symm,fun d hd=>?_⟩
   obtain⟨r',id',ho,hne⟩:=he.go d hd
   refine⟨r',id',(hat _ _ _).2 (.inr ⟨fun e=>?_,ho⟩)⟩
   rw [e,hn] at ho
   simp at ho
  ·obtain⟨D',hD',hiD,hocc⟩:=hok.reach i r1 id1 h1
   refine⟨D',hD',hiD,fun d hd=>?_⟩
   obtain⟨r',id',ho⟩:=hocc d hd
   refine⟨r',id',(hat _ _ _).2 (.inr ⟨fun e=>?_,ho⟩)⟩
   unfold Tab.at at ho
   rw [e,hn] at ho
   simp at ho
 ·unfold occ
  have hx:ts[j]=none:=by
   have:=hn
   rw [List.getElem?_eq_getElem hj] at this
   simpa using this
  rw [List.countP_set hj]
  simp [hx]
 ·intro r' id'
  constructor
  ·rintro⟨i,hi⟩
   rcases(hat _ _ _).1 hi with⟨_,h1,h2⟩|⟨_,h⟩
   ·exact .inl ⟨h1,h2⟩
   ·exact .inr ⟨i,h⟩
  ·rintro(⟨rfl,rfl⟩|⟨i,hi⟩)
   ·exact⟨j,(hat _ _ _).2 (.inl ⟨rfl,rfl,rfl⟩)⟩
   ·refine⟨i,(hat _ _ _).2 (.inr ⟨fun e=>?_,hi⟩)⟩
    unfold Tab.at at hi
    rw [e,hn] at hi
    simp at hi

theorem TabOk.empty (H:Rec→Nat→Nat)(n:Nat):TabOk H (List.replicate n none)∧occ (List.replicate n (none:Option (Rec×Int)))=0∧∀ r id,¬Tab.has (List.replicate n none) r id:=by
 have hno:∀ i r id,¬Tab.at (List.replicate n none) i r id:=fun i r id h=>by
  unfold Tab.at at h
  have:=(List.getElem?_eq_some_iff.1 h)
  obtain⟨h1,h2⟩:=this
  simp at h2
 refine⟨⟨fun i j r id id' h=>(hno _ _ _ h).elim,fun i r id h=>(hno _ _ _ h).elim⟩,?_,fun r id ⟨i,h⟩=>hno i r id h⟩
 unfold occ
 simp [List.countP_replicate]

structure KWorld (W0:World) where
 w:World
 keep:Keeps W0 w

instance (W0:World):Nonempty (KWorld W0):=⟨⟨W0,Keeps.refl W0⟩⟩

theorem wp_region_keeps {P:Program}{id:Nat}{Q:Exit→Act→World→Prop}{a:Act}{w:World}{l:List Oper}(W0:World)(hm:P.follows .mixedOrders=true)(hB:Region.lexB .any l.toArray=true)(h0:Keeps W0 w)
  (h:wpQuiet P l.toArray (fun w'=>∃ x:KWorld W0,w'=x.w) (fun a'=>∀ w',(∃ x:KWorld W0,w'=x.w)→Q .normal a' w') l a):(Code.region id l.toArray true).wp P Q a w:=
 wp_region_quiet (C:=fun w'=>∃ x:KWorld W0,w'=x.w) hm hB ⟨⟨w.drew,h0.drew⟩,rfl⟩ (by simpa using h)

theorem Calls.keepsK {P:Program}{f:FuncId}{args:Array Value}{W0:World}{x:KWorld W0}{v:Value}
  (h:Calls P f args x.w fun e w'=>e=.returned v∧Keeps x.w w'):Calls P f args x.w fun e w''=>e=.returned v∧∃ m:KWorld W0,w''=m.w:=
 h.mono fun _ w' ⟨he,hk⟩=>⟨he,⟨w',x.keep.trans hk⟩,rfl⟩

theorem Calls.sameK {P:Program}{f:FuncId}{args:Array Value}{W0:World}{x:KWorld W0}{v:Value}
  (h:Calls P f args x.w fun e w'=>e=.returned v∧x.w=w'):Calls P f args x.w fun e w''=>e=.returned v∧∃ m:KWorld W0,w''=m.w:=
 h.mono fun _ w' ⟨he,hk⟩=>⟨he,x,hk.symm⟩

theorem KWorld.cell {W0:World}{a:Addr}{v:Value}(h:W0.cell? a=some v)(x:KWorld W0):x.w.cell? a=some v:=x.keep.cell h

end Go.Proofs.YtpgcbmbnognieaaGreat
