/-
  A row of bools of the call's own; which ids of the document's list are marked.
-/
import Derived.Test.YtafkamlhimkbmaaGreatPSortC
import Derived.Test.YtafkamlhimkbmaaGreatPViewT
import Derived.Laws.OwnMore
import Derived.Maps.RangeWalk
import Derived.Maps.OwnOps
import Derived.Laws.EntriesVeiled
namespace Go.Proofs.YtafkamlhimkbmaaGreat
set_option maxRecDepth 1000000
set_option maxHeartbeats 8000000
set_option linter.unusedSimpArgs false
set_option linter.unusedVariables false
open Go.RowKit
def bW (w:World)(j:Nat)(q:List Bool):Prop:=w.heap[j]?=some (.cells (q.map Value.bool).toArray 4 (0,0))
theorem bW.cell {w:World}{j:Nat}{q:List Bool}(h:bW w j q){i:Nat}{b:Bool}(s:q[i]?=some b):w.cell? ⟨j,i,none⟩=some (.bool b):=by
 rw[cell_of_row w j i _ _ _ h];simp[s]
theorem bW.frozen {w:World}{j:Nat}{q:List Bool}(h:bW w j q)(i:Nat):w.frozen? ⟨j,i,none⟩=false:=frozen_of_row w j i _ _ h
theorem bW.lt {w:World}{j:Nat}{q:List Bool}(h:bW w j q):j<w.heap.size:=aM h
theorem bW.a4 {G:Nat→Prop}{w w':World}{j:Nat}{q:List Bool}(h:bW w j q)(t:af G w w')(s:¬G j):bW w' j q:=(t.block j h.lt s).trans h
theorem bW.set {w:World}{j:Nat}{q:List Bool}(h:bW w j q)(i:Nat)(b:Bool):bW (w.setCell ⟨j,i,none⟩ (.bool b)) j (q.set i b):=by
 have e:=Go.heap_setCell_same w j i _ _ (.bool b) h;unfold bW;rw[e];simp[List.map_set]
theorem nX {w:World}{j n:Nat}(h:w.ownsRow j 4 1 (.slice (some ⟨j,0,none⟩) n n) n (madeCells (Value.bool false).cells (n*1)).toList):bW w j (List.replicate n false):=by
 obtain⟨E,I⟩:=bF h (k:=j) rfl;rcases h.2 with⟨z,_⟩|⟨g,cap,s,B,_,A,_,_,j,q⟩
 ·cases z
 ·cases B;unfold bW;rw[A]
  have j:(madeCells (Value.bool false).cells (n*1)).toList=List.replicate n (Value.bool false):=by
   show(madeCells #[Value.bool false] (n*1)).toList=_;rw[toList_madeCells_one,Nat.mul_one]
  rw[j]at q
  have t:s.toList=List.replicate n (Value.bool false):=by
   rw[←q,ic (by simp;omega)]
  congr 2
  rw[List.map_replicate,←t]
def ie (j:List Bool):Nat:=j.countP (fun b=>!b)
theorem qv {j:List Bool}{i:Nat}(h:j[i]?=some false):ie (j.set i true)+1=ie j:=by
 have hi:=(List.getElem?_eq_some_iff.1 h).1;have q:=(List.getElem?_eq_some_iff.1 h).2;unfold ie;rw[List.countP_set hi,q];have:0<List.countP (fun b=>!b) j:=List.countP_pos_iff.2 ⟨false,by rw[←q];exact List.getElem_mem hi,rfl⟩;simp;omega
theorem vU (j:List Bool):ie j≤j.length:=List.countP_le_length
structure dQ (cs:List (Option Rec))(roots:List Int)(L:List (Int×Rec))(bs:List Bool):Prop where
 len:bs.length=L.length
 dj:∀(i:Nat) (p:Int×Rec),L[i]?=some p→bs[i]?=some true→Reaches cs roots p.1
 has:∀(id:Int) (D:Nat),id∈roots→dU L id=(D:Int)→bs[D]?=some true
theorem tA {q:List Bool}{i j:Nat}(h:(q.set i true)[j]?=some true):j=i∨q[j]?=some true:=by
 rw[List.getElem?_set]at h;split at h;·exact .inl (by omega)
 ·exact .inr h
theorem pP {j:List Bool}{i q:Nat}(h:j[q]?=some true):(j.set i true)[q]?=some true:=by
 have j:=(List.getElem?_eq_some_iff.1 h).1;rw[List.getElem?_set];split;·simp;omega
 ·exact h
theorem dQ.mark {cs:List (Option Rec)}{roots:List Int}{j:List (Int×Rec)}{t:List Bool}(h:dQ cs roots j t){i:Nat}{p:Int×Rec}(z:j[i]?=some p)(A:Reaches cs roots p.1):dQ cs roots j (t.set i true):=by
 refine⟨by simp[h.len],fun B E s q=>?_,fun id D hid j=>pP (h.has id D hid j)⟩;rcases tA q with rfl|q;·rw[z]at s;cases s;exact A
 ·exact h.dj B E s q
theorem dQ.root {cs:List (Option Rec)}{roots:List Int}{j:List (Int×Rec)}{z:List Bool}(h:dQ cs roots j z){x:Int}{D:Nat}{r:Rec}(N:dU j x=(D:Int))(A:j[D]?=some (x,r))(E:look cs x≠none) :
  dQ cs (roots++[x]) j (z.set D true):=by
 have I:=(List.getElem?_eq_some_iff.1 A).1
 refine⟨by simp[h.len],fun J L s q=>?_,fun id t hid B=>?_⟩
 ·rcases tA q with rfl|q;·rw[A]at s;cases s;exact Reaches.root (by simp) E
  ·exact(h.dj J L s q).mono (fun y j=>gz _ j)
 ·rcases List.mem_append.1 hid with hid|hid;·exact pP (h.has id t hid B)
  ·rw[cF]at hid;subst hid;obtain rfl:t=D:=(by omega);rw[List.getElem?_set];simp[h.len,I]
theorem dQ.hD {cs:List (Option Rec)}{roots:List Int}{j:List (Int×Rec)}{q:List Bool}(h:dQ cs roots j q){x:Int}(z:dU j x=-1):dQ cs (roots++[x]) j q:=by
 refine⟨h.len,fun A B q j=>(h.dj A B q j).mono (fun y z=>gz _ z),fun id s hid t=>?_⟩;rcases List.mem_append.1 hid with hid|hid;·exact h.has id s hid t
 ·rw[cF]at hid;subst hid;omega
theorem dQ.g5 {cs:List (Option Rec)}{roots:List Int}{j:List (Int×Rec)}{q:List Bool}(h:dQ cs roots j q){d D:Nat}{p:Int×Rec}{c:Int}{t:Rec}(E:j[d]?=some p)(A:q[d]?=some true)(I:look cs p.1=some p.2)
  (B:c=p.2.lo.to∨c=p.2.hi.to) (z:j[D]?=some (c,t)) (s:look cs c=some t):dQ cs roots j (q.set D true):=by
 refine h.mark z ?_
 have j:=h.dj d p E A
 have:=Reaches.closed cs roots p.1 p.2 j I
 rcases B with rfl|rfl
 ·exact this.1 (by rw[s];simp)
 ·exact this.2 (by rw[s];simp)
theorem dQ.start (cs:List (Option Rec))(q:List (Int×Rec)):dQ cs [] q (List.replicate q.length false):=by
 refine⟨by simp,fun q s _ j=>?_,fun id q hid _=>by simp at hid⟩;rw[List.getElem?_replicate]at j;split at j<;>cases j
def nz (j:List (Int×Rec))(q:List Bool)(k:Nat):Prop:=
 ∀(i:Nat) (p:Int×Rec),i<k→j[i]?=some p→q[i]?=some true→(∀D:Nat,dU j p.2.lo.to=(D:Int)→q[D]?=some true)∧(∀D:Nat,dU j p.2.hi.to=(D:Int)→q[D]?=some true)
theorem dQ.fb {F:Nat→Prop}{w:World}{mb:Nat}{M:St}{j:List (Int×Rec)}(J:aV F w mb M j){roots:List Int}{z:List Bool}(h:dQ M.cs roots j z)(T:nz j z j.length)
  {id:Int} {D:Nat} (q:dU j id=(D:Int)):z[D]?=some true↔Reaches M.cs roots id:=by
 -- the place of an id holds it
 have place:∀(id:Int) (D:Nat),dU j id=(D:Int)→∃r,look M.cs id=some r∧j[D]?=some (id,r):=by
  intro id D q;rcases fM J id with⟨r,s,A,E,_,_,t⟩|⟨_,_,t⟩
  ·rw[t]at q;obtain rfl:A=D:=(by omega);exact⟨r,s,E⟩
  ·rw[t]at q;omega
 have O:∀id,look M.cs id≠none→∃D:Nat,dU j id=(D:Int):=by
  intro id s;rcases fM J id with⟨r,_,A,_,_,_,t⟩|⟨J,_,_⟩
  ·exact⟨A,t⟩
  ·exact absurd J s
 constructor
 ·intro S;obtain⟨r,_,E⟩:=place id D q;exact h.dj D _ E S
 ·intro t
  have key:=t (fun x=>∀D:Nat,dU j x=(D:Int)→z[D]?=some true) (fun e j s D q=>h.has e D j q) (fun x r U s=>by
   obtain⟨B,L⟩:=O x (by rw[s];simp);obtain⟨j,N,I⟩:=place x B L;rw[s]at N;cases N;have j:=(List.getElem?_eq_some_iff.1 I).1;have:=T B _ j I (U B L)
   exact⟨fun _=>this.1,fun _=>this.2⟩)
  exact key D q
noncomputable def kv (cs:List (Option Rec))(roots:List Int)(id:Int):Bool:=@decide (Reaches cs roots id) (Classical.propDecidable _)
theorem ph {cs:List (Option Rec)}{roots:List Int}{id:Int}:kv cs roots id=true↔Reaches cs roots id:=by
 unfold kv;exact@decide_eq_true_iff _ (Classical.propDecidable _)
noncomputable def gG (cs:List (Option Rec))(roots:List Int)(k:Nat):List Int:=((List.range k).map (fun i:Nat=>(i:Int)+2)).filter (kv cs roots)
theorem Bg {cs:List (Option Rec)}{roots:List Int}{k:Nat}(h:Reaches cs roots ((k:Int)+2)):gG cs roots (k+1)=gG cs roots k++[(k:Int)+2]:=by
 unfold gG;rw[List.range_succ,fL,List.filter_append];simp[ph.2 h]
theorem sR {cs:List (Option Rec)}{roots:List Int}{k:Nat}(h:¬Reaches cs roots ((k:Int)+2)):gG cs roots (k+1)=gG cs roots k:=by
 unfold gG;rw[List.range_succ,fL,List.filter_append]
 have:kv cs roots ((k:Int)+2)=false:=by
  cases j:kv cs roots ((k:Int)+2)with
  |false=>rfl
  |true=>exact absurd (ph.1 j) h
 simp[this]
theorem Bh (cs:List (Option Rec))(roots:List Int)(k:Nat):(gG cs roots k).length≤k:=by
 unfold gG;have:=List.length_filter_le (kv cs roots) ((List.range k).map (fun i:Nat=>(i:Int)+2));simpa using this
theorem Be (cs:List (Option Rec))(roots:List Int)(f:Int→Bool)(q:∀id,2≤id→id<(cs.length:Int)+2→(f id=true↔Reaches cs roots id)) :
  ((List.range cs.length).map (fun i:Nat=>(i:Int)+2)).filter f=aU cs roots:=by
 unfold aU
 refine List.filter_congr fun x s=>?_
 obtain⟨i,hi,rfl⟩:=List.mem_map.1 s
 have hi:=List.mem_range.1 hi
 have:=q ((i:Int)+2) (by omega) (by omega)
 cases j:f ((i:Int)+2)with
 |true=>simp[this.1 j]
 |false=>
  have:¬Reaches cs roots ((i:Int)+2):=fun h=>by rw[this.2 h]at j;cases j
  simp[this]
theorem Bf (cs:List (Option Rec))(roots:List Int):gG cs roots cs.length=aU cs roots:=Be cs roots _ (fun _ _ _=>ph)
def fk (j:List Int):DataW Unit:=Maps.setOf (.lit (.int .i64 1)) (j.map (Lit.int .u32))
theorem zB (j:List Int)(x:Int):fk (j++[x])=(fk j).put (.int .u32 x) (.lit (.int .i64 1)):=by
 unfold fk;rw[fL,List.map_singleton,Maps.setOf_snoc]
theorem zC (j:List Int):∀x∈j.map (Lit.int .u32),WideAt.IsKeyLit x:=by
 intro x q;obtain⟨y,_,rfl⟩:=List.mem_map.1 q;trivial
theorem oS (j:List Int)(x:Int):Maps.has (fk j) (.int .u32 x)=true↔x∈j:=by
 unfold fk;rw[Maps.has_setOf _ _ _ (zC j),List.any_eq_true];constructor
 ·rintro⟨y,s,q⟩;obtain⟨z,t,rfl⟩:=List.mem_map.1 s;have:=WideAt.sameKey_eq q;cases this;exact t
 ·intro h;exact⟨_,List.mem_map.2 ⟨x,h,rfl⟩,WideAt.sameKey_self trivial⟩
theorem xS (x:Int):∀(j:List Int) (D:DataW Unit),Maps.IsMap D→x∈j→((j.map (Lit.int .u32)).foldl (fun m k=>m.put k (.lit (.int .i64 1))) D).atKey (.int .u32 x) (.lit (.int .i64 0))=.lit (.int .i64 1):=by
 intro j;induction j with
 |nil=>intro D _ h;simp at h
 |cons y j E=>
  intro D z h;simp only[List.map_cons,List.foldl_cons];by_cases t:x∈j;·exact E _ (z.put _ _) t
  ·have B:x=y:=(by simpa[t]using h);subst B
   have:∀(q:List Int) (s:DataW Unit),x∉q→((q.map (Lit.int .u32)).foldl (fun m k=>m.put k (.lit (.int .i64 1))) s).atKey (.int .u32 x) (.lit (.int .i64 0))=s.atKey (.int .u32 x) (.lit (.int .i64 0)):=by
    intro q;induction q with
    |nil=>intro s _;rfl
    |cons B q I=>
     intro s A;simp only[List.map_cons,List.foldl_cons];rw[I _ (fun h=>A (eE _ h))];exact Maps.atKey_put_other (fun e=>A (by cases e;simp)) _ _
   rw[this j _ t];exact Maps.atKey_put_same z (show WideAt.IsKeyLit (.int .u32 x)from True.intro) _ _
theorem rX {j:List Int}{x:Int}(h:x∈j):(fk j).atKey (.int .u32 x) (.lit (.int .i64 0))=.lit (.int .i64 1):=xS x j _ Maps.isMap_empty h
theorem rY {j:List Int}{x:Int}(h:x∉j):(fk j).atKey (.int .u32 x) (.lit (.int .i64 0))=.lit (.int .i64 0):=by
 refine Maps.atKey_of_not_has ?_ _;cases q:Maps.has (fk j) (.int .u32 x)with
 |false=>rfl
 |true=>exact absurd ((oS j x).1 q) h
theorem rn:∀(n:Nat) (j:List Int),j.Nodup→(∀x∈j,2≤x∧x-2<(n:Int))→j.length≤n:=by
 intro n;induction n with
 |zero=>
  intro j _ h;cases j with
  |nil=>simp
  |cons x j=>have:=h x (by simp);omega
 |succ n s=>
  intro j hS h
  have t:=s (j.erase ((n:Int)+2)) (hS.erase _) (fun x q=>by
   obtain⟨t,s⟩:=(List.Nodup.mem_erase_iff hS).1 q;have:=h x s
   omega)
  have q:j.length≤(j.erase ((n:Int)+2)).length+1:=by
   rw[List.length_erase];split<;>omega
  omega
theorem uz (w:World):(zeroValue 3).run Tryz.prog w=.ok (.int .i64 0) w:=by kernel_rfl
structure dR (F:Nat→Prop)(sb:Nat)(M:St)(sx nb vb b:Nat)(S:List Int)(W:World):Prop where
 a8:ak F W sb M
 cs:W.cell? ⟨sx,0,none⟩=some (.pointer (some ⟨sb,0,none⟩))
 cn:W.cell? ⟨nb,0,none⟩=some (.map (some b))
 cv:W.cell? ⟨vb,0,none⟩=some (.func (.func 177) #[] #[.pointer (some ⟨sx,0,none⟩),.pointer (some ⟨nb,0,none⟩),.pointer (some ⟨vb,0,none⟩)])
 nF:¬F b
 own:W.ownsMap Tryz.prog 50 (plainElem (H:=Unit) Tryz.prog 3) b S.length (fk S)
 b3:S.Nodup
 ha:∀x∈S,look M.cs x≠none
theorem dR.ne {F:Nat→Prop}{sb:Nat}{M:St}{s q vb b:Nat}{t:List Int}{j:World}(h:dR F sb M s q vb b t j):s≠b∧q≠b∧vb≠b:=by
 obtain⟨es,clock,z,_⟩:=h.own
 have no:∀(k:Nat) (v:Value),j.cell? ⟨k,0,none⟩=some v→k≠b:=by
  intro k v A e;subst e;simp[World.cell?,z]at A
 exact⟨no _ _ h.cs,no _ _ h.cn,no _ _ h.cv⟩
theorem dR.cE {F:Nat→Prop}{sb:Nat}{M:St}{A z vb b:Nat}{q:List Int}{j:World}(h:dR F sb M A z vb b q j){k o:Nat}{v:Value}(t:j.cell? ⟨k,o,none⟩=some v):k≠b:=by
 obtain⟨es,clock,s,_⟩:=h.own;intro e;subst e;simp[World.cell?,s]at t
theorem ae.none {w w':World}(h:ae w w'):w.grownBy w' none:=⟨h.os,h.tape,h.output,h.size,fun i hi _=>h.block i hi⟩
theorem af.fD {b:Nat}{w w':World}(h:w.grownBy w' (some b)):af (fun k=>k=b) w w':=⟨h.os,h.tape,h.output,h.size,fun i hi j=>h.block i hi (fun e=>j (by cases e;rfl))⟩
theorem af.cellAt {F:Nat→Prop}{w w':World}(h:af F w w'){b o:Nat}{v:Value}(q:¬F b)(j:w.cell? ⟨b,o,none⟩=some v):w'.cell? ⟨b,o,none⟩=some v:=by
 have:=h.block b (aB (a:=⟨b,o,none⟩) j) q;rw[←j];simp only[World.cell?,this]
theorem dR.ad {F:Nat→Prop}{sb:Nat}{M:St}{z t vb b:Nat}{q:List Int}{s W':World}(h:dR F sb M z t vb b q s)(j:ae s W'):dR F sb M z t vb b q W':=
 ⟨h.a8.ad j,j.cell h.cs,j.cell h.cn,j.cell h.cv,h.nF,h.own.kept j.none (by simp),h.b3,h.ha⟩
theorem dR.next {F:Nat→Prop}{sb:Nat}{M:St}{A z vb b:Nat}{B j:List Int}{t W':World}(h:dR F sb M A z vb b B t)(q:af (fun k=>k=b) t W')
  (I:W'.ownsMap Tryz.prog 50 (plainElem (H:=Unit) Tryz.prog 3) b j.length (fk j)) (E:j.Nodup) (s:∀x∈j,look M.cs x≠none):dR F sb M A z vb b j W':=by
 obtain⟨J,L,N⟩:=h.ne
 exact⟨h.a8.a4 q (fun k s e=>h.nF (by cases e;exact s)),q.cellAt J h.cs,q.cellAt L h.cn,q.cellAt N h.cv,h.nF,I,E,s⟩
theorem dR.mark {F:Nat→Prop}{sb:Nat}{M:St}{A z vb b:Nat}{q:List Int}{s W':World}(h:dR F sb M A z vb b q s)(L:af (fun k=>k=b) s W'){id:Int}{r:Rec}
  (J:W'.ownsMap Tryz.prog 50 (plainElem (H:=Unit) Tryz.prog 3) b (q.length+1) ((fk q).put (.int .u32 id) (.lit (.int .i64 1)))) (I:id∉q) (E:look M.cs id=some r):dR F sb M A z vb b (q++[id]) W':=by
 refine h.next L ?_ ?_ ?_
 ·rw[zB,di];exact J
 ·refine List.nodup_append.2 ⟨h.b3,by simp,fun a B c t e=>?_⟩;rw[cF]at t;subst e t;exact I B
 ·intro x j;rcases List.mem_append.1 j with j|j;·exact h.ha x j
  ·rw[cF]at j;rw[j,E];simp
theorem dR.bx {F:Nat→Prop}{sb:Nat}{M:St}{z t vb b:Nat}{j:List Int}{q:World}(h:dR F sb M z t vb b j q):j.length≤1048576:=by
 have q:=rn M.cs.length j h.b3 (fun x s=>by
  cases j:look M.cs x with
  |none=>exact absurd j (h.ha x s)
  |some r=>have:=ck j;exact⟨this.1,this.2.1⟩)
 obtain⟨⟨t,ib,ts,q,s,_,j,_⟩,_⟩:=h.a8;have:=j.bx;omega
def lU (F:Nat→Prop)(sb:Nat)(M:St)(z t vb b:Nat)(id:Int)(j:List Int)(s:World)(e:Ending)(W':World):Prop:=
 e=.returned (.tuple #[])∧∃q,fW M.cs id j q∧af (fun k=>k=b) s W'∧dR F sb M z t vb b (j++q) W'
theorem ur {F:Nat→Prop}{sb:Nat}{M:St}{j A vb b:Nat}{s:List Int}{w:World}(W id:Int)(hid:id≤4294967295)(h:dR F sb M j A vb b s w)
  (a6:∀r,look M.cs id=some r→∀s q,dR F sb M j A vb b s q→Calls Tryz.prog 177 #[.agg #[.int .u8 r.lo.tag,.int .u32 r.lo.to],.pointer (some ⟨j,0,none⟩),.pointer (some ⟨A,0,none⟩),.pointer (some ⟨vb,0,none⟩)] q (lU F sb M j A vb b r.lo.to s q))
  (a4:∀r,look M.cs id=some r→∀s q,dR F sb M j A vb b s q→Calls Tryz.prog 177 #[.agg #[.int .u8 r.hi.tag,.int .u32 r.hi.to],.pointer (some ⟨j,0,none⟩),.pointer (some ⟨A,0,none⟩),.pointer (some ⟨vb,0,none⟩)] q (lU F sb M j A vb b r.hi.to s q)) :
  Calls Tryz.prog 177 #[.agg #[.int .u8 W,.int .u32 id],.pointer (some ⟨j,0,none⟩),.pointer (some ⟨A,0,none⟩),.pointer (some ⟨vb,0,none⟩)] w (lU F sb M j A vb b id s w):=by
 have av:=aa h
 have bg:=aa a6
 have bf:=aa a4
 have a0:=h.cs
 have T:∃E,w.cell? ⟨sb,1,none⟩=some (.pointer (some ⟨E,0,none⟩))∧∀q,ae w q→Calls Tryz.prog 133 #[.pointer (some ⟨E,0,none⟩),.int .u32 id] q fun e w'=>e=.returned (.tuple #[.agg #[.int .u8 (aA (look M.cs id)).al,.int .u8 (aA (look M.cs id)).I,.int .u8 (aA (look M.cs id)).J,.int .u8 (aA (look M.cs id)).lo.tag,.int .u32 (aA (look M.cs id)).lo.to,.int .u8 (aA (look M.cs id)).hi.tag,.int .u32 (aA (look M.cs id)).hi.to],.bool (jy (look M.cs id))])∧ae q w':=by
  obtain⟨⟨E,ib,ts,A,cf,bx,Y,-⟩,-⟩:=h.a8;exact⟨E,by rw[cell_of_row w sb 1 _ _ _ bx];rfl,fun q A=>nN (Y.ad A) id hid⟩
 obtain⟨E,a1,T⟩:=T
 have H:=aa T
 have b3:=aB a0
 have b2:=aB a1
 dsimp only at b3 b2
 have q:w.heap.size≠j:=by omega
 have q:w.heap.size≠sb:=by omega
 have q:w.heap.size+1≠j:=by omega
 have b0:w.heap.size+1≠sb:=by omega
 clear h a6 a4 T
 obtain⟨x,al⟩:∃x,x=aA (look M.cs id):=⟨_,rfl⟩
 obtain⟨ok,ab⟩:∃ok,ok=jy (look M.cs id):=⟨_,rfl⟩
 rw[←al,←ab]at H
 have am:=aa ab
 have bq:=aa al
 clear al ab
 go_enter Tryz.func177,Tryz.ntmps177
 go_upto_region 1 with fail
 go_cut [5,6] (fun A T q=>∃B,A=.pointer (some ⟨B,0,none⟩)∧T=.bool ok∧q.cell? ⟨B,3,none⟩=some (.int .u8 x.lo.tag)∧q.cell? ⟨B,4,none⟩=some (.int .u32 x.lo.to)∧q.cell? ⟨B,5,none⟩=some (.int .u8 x.hi.tag)∧q.cell? ⟨B,6,none⟩=some (.int .u32 x.hi.to) ∧
  q.cell? ⟨w.heap.size,0,none⟩=some (.int .u8 W)∧q.cell? ⟨w.heap.size,1,none⟩=some (.int .u32 id)∧ae w q)
 case first=>
  go_region_held3 (fun w'=>w'.cell? ⟨j,0,none⟩=some (.pointer (some ⟨sb,0,none⟩))∧w'.cell? ⟨sb,1,none⟩=some (.pointer (some ⟨E,0,none⟩))∧w'.cell? ⟨w.heap.size,1,none⟩=some (.int .u32 id)) (go_keep) ((first|(go_at_call 133;refine(H.out _ kp).mono ?_;rintro e w1 ⟨rfl,L⟩;obtain⟨q,A⟩:=L.cells;have U:ae (w.alloc (.cells #[.int .u8 W,.int .u32 id] 52)) w1:=kp;have bb:ae w w1:=(((ae.refl _).alloc _).trans U);have bd:w1.cell? ⟨w.heap.size,0,none⟩=some (.int .u8 W):=U.cell (by simp);have be:w1.cell? ⟨w.heap.size,1,none⟩=some (.int .u32 id):=U.cell (by simp);have q:=bb.cell a0;have q:=bb.cell a1;have b4:=U.size;simp only[ai]at b4;have b0:w1.heap.size≠sb:=(by omega);have q:w1.heap.size≠w.heap.size:=(by omega);have q:w1.heap.size≠j:=(by omega);have a7:w.heap.size<w1.heap.size:=(by omega))))
  all_goals(try go_wp2_with fail)
  all_goals go_meet
  all_goals first
   |exact⟨w1.heap.size,rfl,rfl,by simp[go_sem],by simp[go_sem],by simp[go_sem],by simp[go_sem],by simp[go_sem,a7,bd],by simp[go_sem,a7,be],kp⟩
   |(have ca:=L.U (a:=⟨w.heap.size+1,3,none⟩) (v:=.int .u8 0)
     have cb:=L.U (a:=⟨w.heap.size+1,4,none⟩) (v:=.int .u32 0)
     have cc:=L.U (a:=⟨w.heap.size+1,5,none⟩) (v:=.int .u8 0)
     have cd:=L.U (a:=⟨w.heap.size+1,6,none⟩) (v:=.int .u32 0)
     exact⟨w.heap.size+1,rfl,rfl,by simp[go_sem,ca],by simp[go_sem,cb],by simp[go_sem,cc],by simp[go_sem,cd],by simp[go_sem,bd],by simp[go_sem,be],kp⟩)
 case rest=>
  obtain⟨B,rfl,rfl,a3,d4,bt,bv,bw,q,j⟩:=hcut;have t:=aa (av.out.ad j);have X:=aa j;have q:=t.out.cn;clear j;cases z:look M.cs id with
  |none=>
   have Z:ok=false:=(by rw[am.out,z];rfl);subst Z;go_wp2;first|go_end0|refine aq (results_none rfl _ _ _) rfl ?_
   exact⟨rfl,[],fW.none z,ae.av X.out _,by simpa using t.out⟩
  |some r=>
   have Z:ok=true:=(by rw[am.out,z];rfl);have b6:x=r:=(by rw[bq.out,z];rfl);subst Z;subst b6;have b1:=ck z
   have j:M.cs.length≤1048576:=by
    obtain⟨⟨_,_,_,_,_,_,Y,_⟩,_⟩:=av.out.a8;exact Y.bx
   have b5:(Lit.int .u32 id).wf=true:=(by obtain⟨j,q,_⟩:=b1;simp[Lit.wf,show IntKind.u32.min=0 from rfl,show IntKind.u32.max=4294967295 from rfl];omega);have a5:=Maps.keyOf_int_mk Tryz.underlying50 b5;obtain⟨c,j,S,-⟩:=t.out.own.lookup_int (Maps.int_keyed Tryz.underlying50) Tryz.underlying187 Tryz.underlying3 (uz _) a5;by_cases N:id∈s
   ·rw[rX N]at S;cases S;go_wp2;first|go_end0|refine aq (results_none rfl _ _ _) rfl ?_
    exact⟨rfl,[],fW.hB N,ae.av X.out _,by simpa using t.out⟩
   ·rw[rY N]at S;cases S;have bD:s.length<maxLen:=(by have:=t.out.bx;unfold maxLen;omega);have J:B≠b:=t.out.cE a3;have j:w.heap.size≠b:=t.out.cE bw;go_wp2_with (first|(at_mapUpdate;refine wpList_mapUpdate_own _ rfl _ _ _ 187 rfl 50 3 (Maps.int_keyed Tryz.underlying50) Tryz.underlying187 _ b s.length _ rfl t.out.own bD _ _ (.int .u32 id) rfl rfl a5 (.lit (.int .i64 1)) [] (plainElem_int Tryz.underlying3 (by decide)) ?_;intro A s q;have I:=aa (af.fD q);have j:=aa (t.out.mark I.out s N z);have b7:=I.out.cellAt J a3;have b8:=I.out.cellAt J d4;have a8:=I.out.cellAt J bt;have a':=I.out.cellAt J bv;have b9:=j.out.cv;clear s q)|fail)
    refine(bg.out x z _ A j.out).mono ?_;rintro e ce ⟨rfl,br,j,O,q⟩;have bi:=aa j;have O:=aa O;have aw:=aa q;have a8:=O.out.cellAt J a8;have a':=O.out.cellAt J a';have b9:=aw.out.cv;clear j q b7 b8;go_wp2_with fail;refine(bf.out x z _ ce aw.out).mono ?_;rintro e j ⟨rfl,bs,j,ad,q⟩;have bn:=aa j;have ad:=aa ad;have bp:=aa q;clear j q;go_wp2;first|go_end0|refine aq (results_none rfl _ _ _) rfl ?_
    refine⟨rfl,id::(br++bs),fW.gf z N bi.out bn.out,(((ae.av X.out _).bg I.out).bg O.out).bg ad.out,?_⟩;have:=bp.out;simpa using this
theorem Ed {F:Nat→Prop}{sb:Nat}{M:St}{J E vb b:Nat}:∀(s:Nat) (e:Edge) (q:List Int) (w:World),e.ok→dR F sb M J E vb b q w→(∀r,look M.cs e.to=some r→M.n-r.I<(s:Int)) →
  Calls Tryz.prog 177 #[.agg #[.int .u8 e.tag,.int .u32 e.to],.pointer (some ⟨J,0,none⟩),.pointer (some ⟨E,0,none⟩),.pointer (some ⟨vb,0,none⟩)] w (lU F sb M J E vb b e.to q w):=by
 intro s
 induction s with
 |zero=>
  intro e q w E h z
  have no:∀r,look M.cs e.to=some r→False:=fun r j=>by
   have g:=h.a8.wf.b6 j;have t:=z r j;have L:=g.tb;have J:=g.bn;omega
  exact ur e.tag e.to E.2.2 h (fun r j=>(no r j).elim) (fun r j=>(no r j).elim)
 |succ s N=>
  intro e q w E h z;refine ur e.tag e.to E.2.2 h (fun r j q A B=>?_) (fun r j q A B=>?_)
  ·refine N r.lo q A (h.a8.b0 j).lo B (fun O I=>?_);have t:=z r j;have L:=(qC h.a8.wf j (.inl rfl) I).1;push_cast at t;omega
  ·refine N r.hi q A (h.a8.b0 j).hi B (fun O I=>?_);have t:=z r j;have L:=(qC h.a8.wf j (.inr rfl) I).1;push_cast at t;omega
def fu (w:World)(a:Option Addr)(len:Nat)(es:List Edge):Prop:=
 es.length=len∧∀i e,es[i]?=some e→e.ok∧∃b off,a=some ⟨b,off,none⟩∧w.cell? ⟨b,off+i*2,none⟩=some (.int .u8 e.tag)∧w.cell? ⟨b,off+i*2+1,none⟩=some (.int .u32 e.to)
theorem sS {F:Nat→Prop}{w:World}{sb:Nat}{M:St}(h:ak F w sb M)(a:Option Addr)(len cap:Nat)(es:List Edge)(J:fu w a len es)(ad:len≤1048576) :
  Calls Tryz.prog 111 #[.pointer (some ⟨sb,0,none⟩),.slice a len cap] w fun e w'=>
   ∃b j,e=.returned (.map (some b))∧gw M.cs (es.map Edge.to) j∧w'.ownsMap Tryz.prog 50 (plainElem (H:=Unit) Tryz.prog 3) b j.length (fk j)∧j.length≤1048576∧w.heap.size≤b∧ae w w':=by
 have E:=aa h
 have z:=aa J
 have ad:=h.lt _ h.own
 clear h J
 have J:=@run_makeMap Tryz.prog
 go_enter Tryz.func111,Tryz.ntmps111
 go_wp2
 go_loopg [13] len (fun gk i wr=>∃(d:Nat) (j:List Int),d+gk=len∧i=.int .i64 (d:Int)∧gw M.cs ((es.take d).map Edge.to) j∧dR F sb M w.heap.size (w.heap.size+2) (w.heap.size+3) (w.heap.size+1) j wr∧ae w wr)
 case atStart=>
  have s:ae w ((((w.alloc (.cells #[.pointer (some ⟨sb,0,none⟩)] 29)).alloc (.map #[] 0)).alloc (.cells #[.map (some (w.heap.size+1))] 187)).alloc (.cells #[.func (.func 177) #[] #[.pointer (some ⟨w.heap.size,0,none⟩),.pointer (some ⟨w.heap.size+1+1,0,none⟩),.pointer (some ⟨w.heap.size+1+1+1,0,none⟩)]] 248)):=kp;refine⟨0,[],by omega,rfl,gw.nil _,⟨E.out.ad s,by simp[go_sem],by simp[go_sem],by simp[go_sem],fun W=>?_,?_,by simp,by simp⟩,s⟩;·have:=E.out.lt _ W;omega
  ·have B:=World.ownsMap_made (H:=Unit) (w.alloc (.cells #[.pointer (some ⟨sb,0,none⟩)] 29)) Tryz.prog 50 (plainElem (H:=Unit) Tryz.prog 3);rw[ai]at B;exact(B.alloc _).alloc _
 case round=>
  obtain⟨d,j,ab,rfl,E,J,s⟩:=hrel;have I:=aa E;have q:=aa J;have t:=aa s;clear E J s;have E:=t.out.size;by_cases Y:d<len
  ·obtain⟨x,L⟩:∃x,es[d]?=some x:=⟨_,ar (by rw[z.out.1];exact Y)⟩;obtain⟨Z,b,off,rfl,E,J⟩:=z.out.2 d x L;have E:=t.out.cell E;have J:=t.out.cell J;have J:b<wr.heap.size:=aB E;have E:=aa (q.out.ad ((ae.refl wr).alloc (.cells #[.int .u8 x.tag,.int .u32 x.to] 52)));have J:=E.out.cv
   have N:=aa (Ed (17:Nat) x j _ Z E.out (fun r E=>by
    have B:=q.out.a8.wf.bw;have B:=(q.out.a8.b0 E).I.1
    omega))
   go_wp2_with fail;refine N.out.mono ?_;rintro e B ⟨rfl,U,B,J,E⟩;have O:=aa B;have T:=aa E;have S:=aa J;clear B E J;go_wp2_with fail;go_roundg (gk-1)
   case rel=>
    refine⟨d+1,j++U,by omega,by simp,?_,T.out,(t.out.alloc _).new S.out (fun k s=>by omega)⟩;have A:es.take (d+1)=es.take d++[x]:=(by rw[List.take_add_one,L];rfl);rw[A,fL];exact I.out.step O.out
   case measure=>omega
  ·have s:=q.out.cn;have X:=q.out.bx;go_wp2;have A:es.take d=es:=ic (by have:=z.out.1;omega);go_ret;exact⟨_,j,rfl,by have:=I.out;rwa[A]at this,q.out.own,X,by omega,t.out⟩
open Go.RowKit Go.Sort
theorem mj:(Tryz.prog.info? 50).map (fun i=>(i.zero,i.size,i.bytes))=some (some (.int .u32 0),1,4):=by kernel_rfl
def iw (w:World)(v:Value)(ids:List Int):Prop:=
 ∃a cap,v=.slice a ids.length cap∧∀i x,ids[i]?=some x→∃g,a=some ⟨g,0,none⟩∧w.cell? ⟨g,i,none⟩=some (.int .u32 x)
theorem Bd {H:Type}{P:Program}{k:TypeId}{R:Value→Option (DataW H×List MemPlace)}{w:World}{b r n:Nat}{D:DataW H}{left:Lit→Bool}{j:Nat}(h:w.ranges P k R b r n D left j) :
  (∀cs e f,w.heap[r]?≠some (.cells cs e f))∧(∀cs e f,w.heap[b]?≠some (.cells cs e f)):=by
 obtain⟨_,_,_,_,_,q,_,_,_,s,_⟩:=h
 exact⟨fun cs e f h=>(by rw[s]at h;cases h),fun cs e f h=>(by rw[q]at h;cases h)⟩
structure iv (S:List Int)(left:Lit→Bool)(ids:List Int):Prop where
 b3:ids.Nodup
 mem:∀x,x∈ids↔(x∈S∧left (.int .u32 x)=false)
theorem iv.start (j:List Int):iv j (Maps.has (fk j)) []:=
 ⟨by simp,fun x=>by
  constructor;·intro h;simp at h
  ·rintro⟨s,q⟩;rw[(oS j x).2 s]at q
   cases q⟩
theorem iv.step {j:List Int}{left:Lit→Bool}{ids:List Int}(h:iv j left ids){x:Int}(hS:x∈j)(A:left (.int .u32 x)=true) :
  iv j (fun t=>left t&&!t.sameKey (.int .u32 x)) (ids++[x]):=by
 refine⟨List.nodup_append.2 ⟨h.b3,by simp,fun a z c q e=>?_⟩,fun y=>?_⟩
 ·rw[cF]at q;subst e q;have:=((h.mem _).1 z).2;rw[A]at this;cases this
 ·by_cases s:y=x
  ·subst s;simp[hS,Lit.sameKey]
  ·simp[h.mem y,s,Lit.sameKey]
theorem iv.perm {j:List Int}{left:Lit→Bool}{ids:List Int}(h:iv j left ids)(hS:j.Nodup)(q:∀k,left k=false):ids.Perm j:=
 (List.perm_ext_iff_of_nodup h.b3 hS).2 fun x=>by rw[h.mem x,q];simp
theorem Bi {F:Nat→Prop}{w:World}{sb:Nat}{M:St}(h:ak F w sb M)(a:Option Addr)(len cap:Nat)(es:List Edge)(a3:fu w a len es)(b2:len≤1048576) :
  Calls Tryz.prog 62 #[.pointer (some ⟨sb,0,none⟩),.slice a len cap] w fun e w'=>
   ∃v,e=.returned v∧iw w' v (aU M.cs (es.map Edge.to))∧ae w w'∧∀g,v.ownBlock=some g→w.heap.size≤g:=by
 have a7:=aa (sS h a len cap es a3 b2)
 have b2:=aa h
 obtain⟨cg,hi,cd,ce,cf⟩:=info_parts mj
 clear h a3
 go_enter Tryz.func62,Tryz.ntmps62
 go_wp2_with fail
 refine a7.out.mono ?_
 rintro e w1 ⟨b,q,rfl,a3,a8,ch,b2,a7⟩
 have S:=aa a3
 have a0:=aa a7
 clear a3 a7
 go_wp2_with (first
  |(at_range;refine wpList_range_own _ rfl _ 187 rfl 50 3 (Maps.int_keyed Tryz.underlying50) Tryz.underlying187 _ b q.length _ rfl a8 ?_;intro w0 b6 B a3)
  |fail)
 go_frame
 have cb:=a8.size_le
 have b7:w0.ownsRow w.heap.size 50 1 (.slice none 0 0) 0 []:=World.ownsRow_nil _ _ _ _
 have bi:=aa (show ae w w0 from a0.out.trans ⟨B.os,B.tape,B.output,B.size,fun i hi=>B.block i hi (by simp)⟩)
 go_loopg [5] (Maps.size (fk q)) (fun gk v wr=>∃(left:Lit→Bool) (ids:List Int),wr.ranges Tryz.prog 50 (plainElem (H:=Unit) Tryz.prog 3) b w1.heap.size q.length (fk q) left gk ∧
  wr.ownsRow w.heap.size 50 1 v ids.length (ids.map (Value.int .u32))∧iv q left ids∧ids.length+gk≤q.length∧(ids=[]→v=.slice none 0 0)∧ae w wr)
 case atStart=>exact⟨_,[],b6,b7,iv.start q,by simpa using cb,fun _=>rfl,bi.out⟩
 case round=>
  obtain⟨left,ids,ab,I,B,a7,a3,j⟩:=hrel;have bp:=aa a3;clear a3;have aw:=aa B;have O:=aa j;clear B j;obtain⟨L,s,rfl,B⟩:=dv I
  go_wp2_with (first
   |(at_next;refine wpList_next_ranges_ii _ rfl _ rfl 50 3 .u32 .i64 (Maps.int_keyed Tryz.underlying50) Tryz.underlying50 Tryz.underlying3 b w1.heap.size q.length _ _ _ rfl ab ?_ ?_)
   |fail)
  ·intro B B;have a':=aw.out.perm S.out.b3 B;rcases I.2 with⟨t,B⟩|⟨g,bt,T,t,a5,W,Z,a3,U,cc⟩
   ·have bw:ids=[]:=List.length_eq_zero_iff.1 B;subst bw;cases t;have B:q=[]:=by have:=a'.length_eq;exact List.length_eq_zero_iff.1 (by simpa using this.symm)
    have bx:aU M.cs (es.map Edge.to)=[]:=by
     rw[List.eq_nil_iff_forall_not_mem];intro y a3;have:=(S.out.fb y).2 (gR.1 a3);rw[B]at this;simp at this
    go_wp2_with (go_at_call 112;refine(C3 _).mono ?_;rintro e N ⟨rfl,rfl⟩)
    go_ret;refine⟨_,rfl,?_,O.out,fun g W=>by simp[Value.ownBlock]at W⟩;rw[bx];exact⟨none,0,rfl,by simp⟩
   ·cases t
    have bD:bP wr g s ids.toArray:=by
     refine⟨T,W,by omega,by simpa using Z,fun z E=>?_⟩;have b1:z<ids.length:=(by simpa using E);have B:(T.toList.take (ids.length*1))[z]?=(ids.map (Value.int .u32))[z]?:=(by rw[cc]);rw[List.getElem?_take_of_lt (by omega),Array.getElem?_toList]at B;rw[B,getElem!_pos ids.toArray z E];simp[b1]
    have b5:0<ids.length:=by
     rcases Nat.eq_zero_or_pos ids.length with am|am
     ·have:=bp.out (List.length_eq_zero_iff.1 am);cases this
     ·exact am
    have br:=aa (C0 g s ids.length ids.toArray wr bD (by simp) b5 (by omega));go_wp2_with fail;refine br.out.mono ?_;rintro e N ⟨rfl,d',bb,ca,ad⟩;have Y:ae w N:=O.out.new ad.av (fun k j=>by subst j;exact a5);have a6:=C4 (d:=ids.toArray) (d':=d') S.out (by simpa using a') (by simpa using bb) (by simpa using ca)
    have b3:(aU M.cs (es.map Edge.to)).length=ids.length:=by
     rw[←a6,Array.length_toList,bb.1];simp
    have b8:=ad.row;clear ad;go_wp2;go_ret;refine⟨.slice (some ⟨g,0,none⟩) ids.length s,rfl,⟨some ⟨g,0,none⟩,s,by rw[b3],fun z x al=>⟨g,rfl,?_⟩⟩,Y,fun B b0=>by simp[Value.ownBlock]at b0;omega⟩;rw[←a6,Array.getElem?_toList]at al;have E:=(Array.getElem?_eq_some_iff.1 al).1;rw[b8.cell z E,getElem!_pos d' z E,(Array.getElem?_eq_some_iff.1 al).2]
  ·intro x c bf bv z z b4 a4 bd z J b9 z;have be:x∈q:=(oS q x).1 (Maps.has_true_of_atKey a4)
   have av:∀k,Value.ownBlock (.slice L ids.length s)=some k→k≠w1.heap.size∧k≠b:=by
    intro k j;obtain⟨cs,U⟩:=bF I j;obtain⟨q,z⟩:=Bd ab;exact⟨fun e=>q _ _ _ (by rw[←e];exact U),fun e=>z _ _ _ (by rw[←e];exact U)⟩
   have X:ae w bf:=O.out.new (af.fD J) (fun k j=>by subst j;exact a0.out.size);have q:bf.ownsRow w.heap.size 50 1 (.slice L ids.length s) ids.length (ids.map (Value.int .u32)):=(af.fD J).bp (fun k j=>(av k j).1) I;have bn:=aa X;have a1:=aa q;have bg:=aa bd;have bs:=aa be;have z:=X.size;have z:=aa J;clear X q I ab bd be a4 J
   go_wp2_with (first
    |(at_builtin;refine wpList_append_own _ rfl _ _ 88 rfl w.heap.size 50 cg (.int .u32 0) 1 4 Tryz.underlying88 hi cd ce cf rfl (by decide) (.slice L ids.length s) ids.length (ids.map (Value.int .u32)) rfl (a1.out.alloc _) ⟨wr.heap.size,0,none⟩ 1 1 [.int .u32 x] rfl rfl (eU _ _ _ _ b9.symm) (by simp[Value.oneCell']) (by unfold maxLen;omega) (by omega) (by simp;omega) ?_;intro B N z q _)
    |fail)
   have bq:=aa z;have A:=aa q;clear z q;go_roundg bv
   case rel=>
    have Y:ae w N:=by
     refine ae.new (F:=fun k=>Value.ownBlock (.slice L ids.length s)=some k) (bn.out.alloc (.cells #[.int .u32 x] 50)) ⟨A.out.os,A.out.tape,A.out.output,A.out.size,fun k j Z=>A.out.block k j (fun e=>Z e.symm)⟩ (fun k j=>?_);rcases a1.out.2 with⟨t,_⟩|⟨g,bt,T,t,a5,_⟩
     ·rw[t]at j;simp[Value.ownBlock]at j
     ·rw[t]at j;simp[Value.ownBlock]at j;omega
    refine⟨_,ids++[x],(bg.out.alloc _).kept A.out (fun e=>(av b e.symm).2 rfl) (fun e=>(av _ e.symm).1 rfl),?_,aw.out.step bs.out b4,by simp;omega,fun h=>by simp at h,Y⟩;simpa using bq.out
   case measure=>omega
theorem mL {F:Nat→Prop}{w:World}{sb:Nat}{M:St}(h:ak F w sb M)(a:Option Addr)(len cap:Nat)(es:List Edge)(j:fu w a len es)(q:len≤1048576) :
  Calls Tryz.prog 62 #[.pointer (some ⟨sb,0,none⟩),.slice a len cap] w fun e w'=>
   ∃v,e=.returned v∧iw w' v (aU M.cs (es.map Edge.to))∧ae w w':=
 (Bi h a len cap es j q).mono fun _ _ ⟨v,j,s,q,_⟩=>⟨v,j,s,q⟩
theorem yB:(Tryz.prog.info? 4).map (fun i=>(i.zero,i.size,i.bytes))=some (some (.bool false),1,1):=by kernel_rfl
theorem aV.size {F:Nat→Prop}{w:World}{mb:Nat}{M:St}{j:List (Int×Rec)}(h:aV F w mb M j):w.cell? ⟨mb,2,none⟩=some (.int .u32 (M.cs.length:Int)):=by
 obtain⟨⟨lv,q,j,_⟩,-⟩:=h;rw[cell_of_row w mb 2 _ _ _ j];rfl
def one (m:Bool):Nat:=if m then 1 else 0
theorem mM {F:Nat→Prop}{w:World}{mb:Nat}{M:St}{q:List (Int×Rec)}(h:aV F w mb M q)(a:Option Addr)(len cap:Nat)(es:List Edge)(c':fu w a len es)(e4:len≤1048576) :
  Calls Tryz.prog 38 #[.pointer (some ⟨mb,0,none⟩),.slice a len cap] w fun e w'=>
   ∃v,e=.returned v∧iw w' v (aU M.cs (es.map Edge.to))∧ae w w':=by
 have ab:=aa h
 have b8:=aa c'
 obtain⟨e4,e7,ce,db⟩:=h.cell
 have e4:=aa db
 have c1:=h.size
 have e4:=h.le
 have e4:=h.bx
 have e4:=h.lt _ h.own
 obtain⟨er,hi,el,em,ep⟩:=info_parts mj
 obtain⟨et,a5,ev,eR,eS⟩:=info_parts yB
 clear h c' db
 go_enter Tryz.func38,Tryz.ntmps38
 go_wp2_with (first
  |(at_make;refine wpList_make_full _ rfl _ _ 62 rfl w.heap.size 4 et (.bool false) 1 Tryz.underlying62 a5 ev eR .i64 .i64 (q.length:Int) (q.length:Int) q.length rfl rfl rfl rfl (by rw[eS];omega) (by unfold maxLen;omega) (aE _) ?_;intro w1 dl bb)
  |fail)
 have d0:=aa (nX dl)
 have d1:=aa (show ae w w1 from⟨bb.os,bb.tape,bb.output,bb.size,fun i hi=>bb.block i hi (by simp)⟩)
 clear dl bb
 go_loopg [6] len (fun gk bb wr=>∃(d:Nat) (A:List Bool),d+gk=len∧bb=.int .i64 (d:Int)∧bW wr w.heap.size A∧dQ M.cs ((es.take d).map Edge.to) q A∧ae w wr)
 case atStart=>exact⟨0,_,by omega,rfl,d0.out,dQ.start _ _,d1.out⟩
 case round=>
  obtain⟨d,A,eg,rfl,s,aw,j⟩:=hrel;have I:=aa s;have N:=aa aw;have z:=aa j;clear s aw j;by_cases bd:d<len
  ·obtain⟨x,a6⟩:∃x,es[d]?=some x:=⟨_,ar (by rw[b8.out.1];exact bd)⟩;obtain⟨e6,b,off,rfl,e3,bb⟩:=b8.out.2 d x a6;have bb:=z.out.cell bb;have a8:es.take (d+1)=es.take d++[x]:=(by rw[List.take_add_one,a6];rfl);have O:=aa (ir (ab.out.ad z.out) x.to);clear e3;rcases fM ab.out x.to with⟨r,bp,D,S,L,al,t⟩|⟨bp,L,t⟩
   ·clear L;rw[t]at O;have bi:=I.out.cell (i:=D) (b:=A[D]'(by rw[N.out.len];exact al)) (ar _);have c2:=I.out.frozen D;go_wp2_with (first|(go_at_call 88;refine O.out.mono ?_;rintro e w' ⟨rfl,rfl⟩)|fail)
    go_roundg (gk-1)
    case rel=>exact⟨d+1,A.set D true,by omega,by simp,I.out.set D true,by rw[a8,fL];exact N.out.root t S (by rw[bp];simp),z.out.new ((af.refl (fun k=>k=w.heap.size) wr).setCell (Or.inl rfl) _) (fun k j=>by omega)⟩
    case measure=>omega
   ·clear L;rw[t]at O;go_wp2_with (first|(go_at_call 88;refine O.out.mono ?_;rintro e w' ⟨rfl,rfl⟩)|fail)
    go_roundg (gk-1)
    case rel=>exact⟨d+1,A,by omega,by simp,I.out,by rw[a8,fL];exact N.out.hD t,z.out⟩
    case measure=>omega
  ·have a8:es.take d=es:=ic (by have:=b8.out.1;omega);rw[a8]at N;go_wp2_with fail;go_loopg [8] (q.length+2) (fun gk bs wr=>∃(A:List Bool) (m:Bool),bs=.bool m∧bW wr w.heap.size A∧dQ M.cs (es.map Edge.to) q A∧ie A+one m≤gk∧(m=false→nz q A q.length)∧ae w wr)
   case atStart=>exact⟨A,true,rfl,I.out,N.out,by have:=vU A;have:=N.out.len;unfold one;simp;omega,(fun h=>by cases h),z.out⟩
   case round=>
    obtain⟨A,m,rfl,s,aw,da,be,j⟩:=hrel;have cy:=aa s;have a0:=aa aw;have bD:=aa j;clear s aw j I N z;cases m
    ·have d3:=aa (be rfl);clear be;have d7:=bD.out.cell c1;go_wp2_with fail;go_loopg [12,13] M.cs.length (fun ci bb b8 ws=>∃k:Nat,k+ci=M.cs.length∧b8=.int .u32 ((k:Int)+2)∧ws.ownsRow w.heap.size 50 1 bb (gG M.cs (es.map Edge.to) k).length ((gG M.cs (es.map Edge.to) k).map (Value.int .u32))∧bW ws w.heap.size A∧ae w ws)
     case atStart=>exact⟨0,by omega,rfl,World.ownsRow_nil _ _ _ _,cy.out,bD.out⟩
     case round=>
      obtain⟨k,e5,rfl,b4,s,j⟩:=hrel;have I:=aa s;have z:=aa j;have ee:=Bh M.cs (es.map Edge.to) k;obtain⟨ids,cn⟩:∃ids,ids=gG M.cs (es.map Edge.to) k:=⟨_,rfl⟩;rw[←cn]at b4 ee;obtain⟨bt,bv,rfl,bb⟩:=dv b4;have a1:=aa b4;have bx:=aa cn;have d7:=z.out.cell c1;clear s j b4 cn bb;by_cases bd:k<M.cs.length
      ·have ek:IntKind.u32.wrap ((M.cs.length:Int)+2)=(M.cs.length:Int)+2:=IntWalk.u32_in _ ⟨by omega,by omega⟩;have O:=aa (ir (ab.out.ad z.out) ((k:Int)+2));rcases fM ab.out ((k:Int)+2)with⟨r,bp,D,S,L,al,t⟩|⟨bp,L,t⟩
       ·clear L;rw[t]at O;have b2:=a0.out.fb ab.out d3.out t;obtain⟨W,E⟩:∃W,A[D]?=some W:=⟨_,ar (by rw[a0.out.len];exact al)⟩;have bi:=I.out.cell E;cases W
        ·have bq:¬Reaches M.cs (es.map Edge.to) ((k:Int)+2):=fun h=>(by have:=b2.2 h;rw[E]at this;cases this);have cb:=aa bq;clear b2 bq;go_wp2_with (first|(go_at_call 88;refine O.out.mono ?_;rintro e w' ⟨rfl,rfl⟩)|fail)
         go_roundg (gk-1)
         case rel=>exact⟨k+1,by omega,by go_num,by rw[sR cb.out,←bx.out];exact a1.out,I.out,z.out⟩
         case measure=>omega
        ·have d6:=aa (b2.1 E);clear b2
         go_wp2_with (first
          |(go_at_call 88;refine O.out.mono ?_;rintro e w' ⟨rfl,rfl⟩)
          |(at_builtin;refine wpList_append_own _ rfl _ _ 88 rfl w.heap.size 50 er (.int .u32 0) 1 4 Tryz.underlying88 hi el em ep rfl (by decide) (.slice bt ids.length bv) ids.length (ids.map (Value.int .u32)) rfl (a1.out.alloc _) ⟨wr.heap.size,0,none⟩ 1 1 [.int .u32 ((k:Int)+2)] rfl rfl (eU _ _ _ _ rfl) (by simp[Value.oneCell']) (by unfold maxLen;omega) (by omega) (by have:=z.out.size;simp;omega) ?_;intro b8 b4 b2 bb _)
          |fail)
         have d2:=aa b2;have cS:=aa (show af (fun k=>Value.ownBlock (.slice bt ids.length bv)=some k) (wr.alloc (.cells #[.int .u32 ((k:Int)+2)] 50)) b4 from⟨bb.os,bb.tape,bb.output,bb.size,fun k j dk=>bb.block k j (fun e=>dk e.symm)⟩);clear b2 bb;go_roundg (gk-1)
         case rel=>
          have e2:∀k,Value.ownBlock (.slice bt ids.length bv)=some k→k≠w.heap.size:=by
           intro k j;obtain⟨cs,c9⟩:=bF a1.out j;exact de c9 I.out (by decide)
          refine⟨k+1,by omega,by go_num,?_,(I.out.a4 (((af.refl (fun _=>False) wr).alloc _)) (fun h=>h)).a4 cS.out (fun h=>e2 _ h rfl),(z.out.alloc _).new cS.out (fun ds a5=>?_)⟩
          ·rw[Bg d6.out,←bx.out];simpa using d2.out
          ·rcases a1.out.2 with⟨a',_⟩|⟨g,d8,d9,a',eb,_⟩
           ·rw[a']at a5;simp[Value.ownBlock]at a5
           ·rw[a']at a5;simp[Value.ownBlock]at a5;omega
         case measure=>omega
       ·clear L;rw[t]at O;have bq:¬Reaches M.cs (es.map Edge.to) ((k:Int)+2):=fun h=>h.some bp;have cb:=aa bq;clear bq;go_wp2_with (first|(go_at_call 88;refine O.out.mono ?_;rintro e w' ⟨rfl,rfl⟩)|fail)
        go_roundg (gk-1)
        case rel=>exact⟨k+1,by omega,by go_num,by rw[sR cb.out,←bx.out];exact a1.out,I.out,z.out⟩
        case measure=>omega
      ·have bb:k=M.cs.length:=(by omega);have ek:IntKind.u32.wrap ((M.cs.length:Int)+2)=(M.cs.length:Int)+2:=IntWalk.u32_in _ ⟨by omega,by omega⟩;have cv:=bx.out;rw[bb,Bf]at cv;go_wp2;go_ret;refine⟨.slice bt ids.length bv,rfl,⟨bt,bv,by rw[←cv],fun ds x a6=>?_⟩,z.out⟩;rw[←cv]at a6;rcases a1.out.2 with⟨a',bb⟩|⟨g,d8,d9,a',eb,bq,dk,bp,c9,bt⟩
       ·have cg:ids=[]:=List.length_eq_zero_iff.1 bb;subst cg;simp at a6
       ·cases a';refine⟨g,rfl,?_⟩;have a5:=(List.getElem?_eq_some_iff.1 a6).1;rw[a1.out.cellAt ds (by omega)];simp[a6]
    ·clear be;have da:ie A+1≤gk:=(by simpa[one]using da);obtain⟨ch,a1⟩:∃ch,ch=gk:=⟨_,rfl⟩;have a1:=bD.out.cell ce;go_wp2_with fail;go_loopg [8,9] q.length (fun ci bs a1 ws=>∃(d:Nat) (B:List Bool) (a7:Bool),d+ci=q.length∧a1=.int .i64 (d:Int)∧bs=.bool a7∧bW ws w.heap.size B∧dQ M.cs (es.map Edge.to) q B∧ie B+one a7≤ie A∧(a7=false→nz q B d)∧ae w ws)
     case atStart=>exact⟨0,A,false,by omega,rfl,rfl,cy.out,a0.out,by simp[one],fun _ i p hi=>absurd hi (by omega),bD.out⟩
     case round=>
      obtain⟨d,B,a7,eg,rfl,rfl,s,aw,c7,be,j⟩:=hrel;have I:=aa s;have N:=aa aw;have z:=aa j;have cE:=aa be;clear s aw j be;by_cases bd:d<q.length
      ·obtain⟨p,b3⟩:∃p,q[d]?=some p:=⟨_,ar bd⟩;obtain⟨id,r⟩:=p;have dj:=(ab.out.mem id r).1 (bB b3);have c0:=z.out.cell ce;obtain⟨lb,bb,dB,_,_,aw,a1,a5,a6,be,a',bp⟩:=(ab.out.ad z.out).et b3;clear aw a1 a5 a6 a';rw[c0]at dB;cases dB;obtain⟨av,ad⟩:∃av,B[d]?=some av:=⟨_,ar (by rw[N.out.len];exact bd)⟩;have O:Hid (∀(id:Int) (n:Nat),Calls Tryz.prog 88 #[.pointer (some ⟨mb,0,none⟩),.int .u32 id] (wr.drewN n) fun e w'=>e=.returned (.int .i64 (dU q id))∧w'=wr.drewN n):=aa (fun id n=>(ir (ab.out.ad (z.out.drewN n)) id).mono (fun e w' h=>⟨h.1,h.2.symm⟩));obtain⟨b0,c5⟩:∃b0,dU q r.lo.to=b0:=⟨_,rfl⟩;obtain⟨b1,c8⟩:∃b1,dU q r.hi.to=b1:=⟨_,rfl⟩;have b5:=aa c5;have b7:=aa c8;clear c5 c8;have aw:Hid (av=true→B[d]?=some true):=aa (fun h=>by rw[ad,h]);have bw:=aa ad;have cc:=aa b3;have cD:=aa dj;clear ad b3 dj;go_upto_region 14 with fail
       go_cut [10,11] (fun aw a1 Z=>aw=.int .i64 b0∧a1=.int .i64 b1∧bW Z w.heap.size B∧ae w Z)
       case first=>
        go_big_quiet (first|(go_at_call 88;exact aQ (O.out _ _)))
        go_wp2_with fail;go_meet;case rel=>exact⟨by rw[b5.out],by rw[b7.out],I.out,z.out.drewN _⟩
       case rest=>
        obtain⟨rfl,rfl,s,j⟩:=hcut;have T:=aa s;have J:=aa j;clear s j;have cf:=T.out.cell bw.out;go_upto_region 15 with fail
        go_cut [87] (fun cx Z=>∃c:Bool,cx=.bool c∧bW Z w.heap.size B∧ae w Z∧(c=true→av=true∧∃(D:Nat) (Y:Rec),b0=(D:Int)∧q[D]?=some (r.lo.to,Y)∧look M.cs r.lo.to=some Y∧B[D]?=some false)∧(c=false→av=true→∀D:Nat,dU q r.lo.to=(D:Int)→B[D]?=some true))
        case first=>
         cases av
         ·go_wp2_with fail;go_meet;case rel=>exact⟨false,rfl,T.out,J.out,(fun h=>by cases h),(fun _ h=>by cases h)⟩
         ·rcases fM ab.out r.lo.to with⟨Y,am,D,S,L,al,t⟩|⟨am,L,t⟩
          ·clear L;have X:=b5.out;rw[t]at X;subst X;obtain⟨W,E⟩:∃W,B[D]?=some W:=⟨_,ar (by rw[N.out.len];exact al)⟩;have bi:=T.out.cell E;cases W
           ·go_wp2_with fail;go_meet;case rel=>exact⟨true,rfl,T.out,J.out,(fun _=>⟨by trivial,D,Y,rfl,S,am,E⟩),(fun h=>by cases h)⟩
           ·go_wp2_with fail;go_meet;case rel=>exact⟨false,rfl,T.out,J.out,(fun h=>by cases h),(fun _ _ bf a4=>by rw[t]at a4;obtain rfl:bf=D:=(by omega);exact E)⟩
          ·clear L;have X:=b5.out;rw[t]at X;subst X;go_wp2_with fail;go_meet;case rel=>exact⟨false,rfl,T.out,J.out,(fun h=>by cases h),(fun _ _ bf a4=>absurd a4 (by rw[t];omega))⟩
        case rest=>
         obtain⟨c,rfl,s,j,br,bn⟩:=hcut;have T:=aa s;have J:=aa j;have cd:=aa br;have b9:=aa bn;clear s j br bn cf;go_upto_if 87 with fail
         go_cut [8] (fun bs Z=>∃(O:List Bool) (aw:Bool),bs=.bool aw∧bW Z w.heap.size O∧ae w Z∧dQ M.cs (es.map Edge.to) q O∧ie O+one aw≤ie A∧(aw=false→a7=false∧O=B∧(av=true→∀D:Nat,dU q r.lo.to=(D:Int)→B[D]?=some true))∧(av=true→O[d]?=some true))
         case first=>
          cases c
          ·go_wp2_with fail;go_meet;case rel=>exact⟨B,a7,rfl,T.out,J.out,N.out,c7,(fun h=>⟨h,rfl,b9.out (by trivial)⟩),(fun h=>by rw[bw.out,h])⟩
          ·obtain⟨cl,D,Y,cp,S,am,E⟩:=cd.out (by trivial);subst cp;have ad:=bw.out;rw[cl]at ad;have bi:=T.out.cell E;have c2:=T.out.frozen D;have al:=(List.getElem?_eq_some_iff.1 S).1;have ca:=aa (N.out.g5 cc.out ad cD.out (.inl rfl) S am);have ed:=qv E;go_wp2_with fail;go_meet;case rel=>exact⟨B.set D true,true,rfl,T.out.set D true,J.out.new ((af.refl (fun k=>k=w.heap.size) _).setCell (Or.inl rfl) _) (fun k j=>by omega),ca.out,(by have:=c7;simp[one];omega),(fun h=>by cases h),(fun _=>pP ad)⟩
         case rest=>
          obtain⟨a3,e1,rfl,s,j,cj,ec,dr,A⟩:=hcut;have a0:=aa cj;have d5:=aa dr;obtain⟨bg,A⟩:∃bg,a3[d]?=some bg:=⟨_,ar (by rw[cj.len];exact bd)⟩;have b6:=aa A;clear cj dr A;have U:=aa s;have J:=aa j;clear s j;have cf:=U.out.cell b6.out;go_upto_region 18 with fail
          go_cut [105] (fun cx Z=>∃c:Bool,cx=.bool c∧bW Z w.heap.size a3∧ae w Z∧(c=true→bg=true∧∃(D:Nat) (Y:Rec),b1=(D:Int)∧q[D]?=some (r.hi.to,Y)∧look M.cs r.hi.to=some Y∧a3[D]?=some false)∧(c=false→bg=true→∀D:Nat,dU q r.hi.to=(D:Int)→a3[D]?=some true))
          case first=>
           cases bg
           ·go_wp2_with fail;go_meet;case rel=>exact⟨false,rfl,U.out,J.out,(fun h=>by cases h),(fun _ h=>by cases h)⟩
           ·rcases fM ab.out r.hi.to with⟨Y,am,D,S,L,al,t⟩|⟨am,L,t⟩
            ·clear L;have X:=b7.out;rw[t]at X;subst X;obtain⟨W,E⟩:∃W,a3[D]?=some W:=⟨_,ar (by rw[a0.out.len];exact al)⟩;have bi:=U.out.cell E;cases W
             ·go_wp2_with fail;go_meet;case rel=>exact⟨true,rfl,U.out,J.out,(fun _=>⟨by trivial,D,Y,rfl,S,am,E⟩),(fun h=>by cases h)⟩
             ·go_wp2_with fail;go_meet;case rel=>exact⟨false,rfl,U.out,J.out,(fun h=>by cases h),(fun _ _ bf a4=>by rw[t]at a4;obtain rfl:bf=D:=(by omega);exact E)⟩
            ·clear L;have X:=b7.out;rw[t]at X;subst X;go_wp2_with fail;go_meet;case rel=>exact⟨false,rfl,U.out,J.out,(fun h=>by cases h),(fun _ _ bf a4=>absurd a4 (by rw[t];omega))⟩
          case rest=>
           obtain⟨c,rfl,s,j,br,bn⟩:=hcut;have U:=aa s;have J:=aa j;have cd:=aa br;have b9:=aa bn;clear s j br bn cf;go_upto_if 105 with fail
           cases c
           ·go_wp2_with fail;go_roundg (gk-1)
            case rel=>
             refine⟨d+1,a3,e1,by omega,by simp,rfl,U.out,a0.out,ec,fun ea=>?_,J.out⟩;obtain⟨a8,cg,e0⟩:=d5.out ea;subst cg;intro i p hi co c6;by_cases hid:i<d;·exact cE.out a8 i p hid co c6
             ·obtain rfl:i=d:=(by omega);rw[cc.out]at co;cases co;have c3:=bw.out;have c4:=b6.out;rw[c6]at c3 c4;cases c3;cases c4;exact⟨e0 rfl,b9.out (by trivial) (by trivial)⟩
            case measure=>omega
           ·obtain⟨cl,D,Y,cp,S,am,E⟩:=cd.out (by trivial);subst cp;have ad:=b6.out;rw[cl]at ad;have bi:=U.out.cell E;have c2:=U.out.frozen D;have al:=(List.getElem?_eq_some_iff.1 S).1;have ca:=aa (a0.out.g5 cc.out ad cD.out (.inr rfl) S am);have ed:=qv E;go_wp2_with fail;go_roundg (gk-1)
            case rel=>exact⟨d+1,a3.set D true,true,by omega,by simp,rfl,U.out.set D true,ca.out,(by simp[one];omega),(fun h=>by cases h),J.out.new ((af.refl (fun k=>k=w.heap.size) _).setCell (Or.inl rfl) _) (fun k j=>by omega)⟩
            case measure=>omega
      ·have c0:=z.out.cell ce;go_wp2_with fail;go_roundg (ch-1)
       case rel=>exact⟨B,a7,rfl,I.out,N.out,by omega,(fun h=>by have:=cE.out h;have e:d=q.length:=(by omega);rwa[e]at this),z.out⟩
       case measure=>omega
def aI (M:St)(f:Int)(r:Rec):Bool:=
 if f=5 then decide (r.hi.to=0)&&decide (r.lo.tag=r.I+1)
 else match look M.cs r.lo.to with
  |none=>false
  |some x=>decide (x.I=r.J+1)&&(if f=4 then decide (r.lo=r.hi)else decide (x.hi=r.hi))
noncomputable def aZ (M:St)(f:Int)(e:Edge)(l:Int):Bool:=
 M.leads f e l&&(aU M.cs [e.to]).all (fun id=>!aI M f (aA (look M.cs id)))
theorem kD {M:St}{f:Int}{e:Edge}{l:Int}(h:M.leads f e l=false):aZ M f e l=false:=by unfold aZ;rw[h];rfl
theorem kB {M:St}{f:Int}{e:Edge}{l:Int}{d:Nat}{id:Int}(hi:(aU M.cs [e.to])[d]?=some id)(j:aI M f (aA (look M.cs id))=true):aZ M f e l=false:=by
 unfold aZ
 have:(aU M.cs [e.to]).all (fun id=>!aI M f (aA (look M.cs id)))=false:=by
  rw[List.all_eq_false];exact⟨id,bB hi,by rw[j];simp⟩
 rw[this,Bool.and_false]
theorem kC {M:St}{f:Int}{e:Edge}{l:Int}(h:M.leads f e l=true)(j:∀(i:Nat) (id:Int),i<(aU M.cs [e.to]).length→(aU M.cs [e.to])[i]?=some id→aI M f (aA (look M.cs id))=false):aZ M f e l=true:=by
 unfold aZ;rw[h,Bool.true_and,List.all_eq_true];intro id hid;obtain⟨i,hi⟩:=List.getElem?_of_mem hid;rw[j i id (List.getElem?_eq_some_iff.1 hi).1 hi];rfl
theorem ky {M:St}(h:M.wf){es:List Int}{d:Nat}{id:Int}(hi:(aU M.cs es)[d]?=some id):∃r,look M.cs id=some r∧kO M r∧2≤id∧id≤(M.cs.length:Int)+1:=by
 have q:=(gR.1 (bB hi)).some;cases j:look M.cs id with
 |none=>exact absurd j q
 |some r=>
  have:=ck j;exact⟨r,rfl,h.b6 j,this.1,by omega⟩
theorem j9 {j:World}{b:Nat}{e:Edge}(z:e.ok)(s:j.cell? ⟨b,0,none⟩=some (.int .u8 e.tag))(t:j.cell? ⟨b,1,none⟩=some (.int .u32 e.to)):fu j (some ⟨b,0,none⟩) 1 [e]:=by
 refine⟨rfl,fun i x q=>?_⟩;cases i with
 |zero=>simp at q;subst q;exact⟨z,b,0,rfl,s,t⟩
 |succ i=>simp at q
theorem kx {M:St}(h:M.wf)(q:M.cs.length≤1048576)(es:List Int):(aU M.cs es).length≤1048576:=by
 have j:=rn M.cs.length (aU M.cs es) ((lG M.cs es).imp (fun h=>by omega)) (fun x q=>by
  have j:=(gR.1 q).some;cases q:look M.cs x with
  |none=>exact absurd q j
  |some r=>have:=ck q;exact⟨this.1,this.2.1⟩)
 omega
theorem ak.bx {F:Nat→Prop}{w:World}{sb:Nat}{M:St}(h:ak F w sb M):M.cs.length≤1048576:=by
 obtain⟨⟨t,ib,ts,q,s,_,j,_⟩,_⟩:=h;exact j.bx
theorem bK {f:Int}{e:Edge}{l n:Int}:dE f e l n=true↔(1≤f∧f≤5∧0≤n∧n≤16∧0≤l∧l≤n∧((f≠5∨e.to=0)→e.tag=0)∧(f=5→e.to≠0→l≤e.tag∧e.tag≤n)):=by
 unfold dE aR fQ;constructor
 ·intro h;split at h;·cases h
  ·rename_i c;simp only[dS,Bool.not_eq_true',Bool.and_eq_false_iff,decide_eq_false_iff_not,bC,not_or]at c;split at h
   ·rename_i d;simp only[dS,bne_iff_ne,ne_eq,beq_iff_eq]at d;have:=eq_of_beq h;refine⟨by omega,by omega,by omega,by omega,by omega,by omega,fun _=>this,fun q s=>?_⟩;rcases d with d|d;·exact absurd q d
    ·exact absurd d s
   ·rename_i d;simp only[dS,bne_iff_ne,ne_eq,beq_iff_eq,not_or,Decidable.not_not]at d;simp only[bT,bC]at h;refine⟨by omega,by omega,by omega,by omega,by omega,by omega,fun j=>?_,fun _ _=>h⟩;rcases j with j|j;·exact absurd d.1 j
    ·exact absurd j d.2
 ·rintro⟨j,s,A,B,q,E,t,z⟩
  have c:¬(!(decide (1≤f)&&decide (f≤5))||!(decide (0≤n)&&decide (n≤16))||decide (l<0)||decide (n<l))=true:=by
   simp only[dS,Bool.not_eq_true',Bool.and_eq_false_iff,decide_eq_false_iff_not,bC];omega
  rw[ag c];by_cases d:f≠5∨e.to=0
  ·have d':(f != 5||e.to==0)=true:=(by simpa using d);rw[ah d'];simpa using t d
  ·have d':¬(f != 5||e.to==0)=true:=(by simpa using d);rw[ag d'];have:=z (by omega) (by omega);simpa using this
theorem a9 {M:St}{f:Int}{e:Edge}{l:Int}:M.leads f e l=true↔(dE f e l M.n=true∧(e.to<2∨∃r,look M.cs e.to=some r∧r.al=f∧l≤r.I∧e.tag≤r.I)):=by
 refine⟨jC,?_⟩;rintro⟨q,j⟩;unfold St.leads;rw[q,Bool.true_and];rcases j with j|⟨r,A,s,t,z⟩;·rw[bc j];rfl
 ·rw[A];simp[s,t,z]
theorem mq {M:St}{f:Int}{e:Edge}{l l':Int}(h:M.leads f e l=true)(q:0≤l')(t:l'≤l):M.leads f e l'=true:=by
 obtain⟨s,j⟩:=a9.1 h;obtain⟨t,z,A,B,J,L,E,I⟩:=bK.1 s;refine a9.2 ⟨bK.2 ⟨t,z,A,B,q,by omega,E,fun a b=>by have:=I a b;omega⟩,?_⟩;rcases j with j|⟨r,q,s,z,t⟩;·exact .inl j
 ·exact .inr ⟨r,q,s,by omega,t⟩
theorem k8 {M:St}(h:M.wf){r:Rec}{id:Int}(j:look M.cs id=some r):M.a' r=0∧M.bd r=id∧M.a7 r=M:=by
 have hi:=(jf h.b3 r id).1 j;unfold St.a' St.bd St.a7;rw[hi];exact⟨rfl,rfl,rfl⟩
theorem k7 {M:St}(h:M.wf){r:Rec}(q:M.br r=false)(B:M.len<M.room) :
  M.a' r=0∧look (M.a7 r).cs (M.bd r)=some r∧(∀id s,look M.cs id=some s→look (M.a7 r).cs id=some s)∧(M.a7 r).n=M.n∧(M.a7 r).wf∧2≤M.bd r:=by
 cases hi:M.bD r with
 |some id=>
  have j:=(jf h.b3 r id).2 hi;obtain⟨a,b,c⟩:=k8 h j;rw[b,c];exact⟨a,j,fun _ _ h=>h,rfl,h,(ck j).1⟩
 |none=>
  have A:M.a' r=0:=by unfold St.a';rw[hi];simp only[];rw[ag (by rw[q];simp),ag (by omega)]
  have t:M.bd r=cQ M.gone M.cs.length:=by unfold St.bd;rw[hi];simp only[];rw[ag (by rw[q];simp),ag (by omega)]
  have z:M.a7 r=M.add r:=by unfold St.a7;rw[hi];simp only[];rw[ag (by rw[q];simp),ag (by omega)];rfl
  refine⟨A,?_,?_,by rw[qR],h.g7 r,?_⟩
  ·rw[t,z];exact(h.fj r _ _).2 (.inl ⟨rfl,rfl⟩)
  ·intro id s j;rw[z];exact(h.fj r _ _).2 (.inr j)
  ·rw[t];exact(mK h.gone).1
theorem pn {M:St}{f:Int}{e:Edge}{l:Int}(h:aZ M f e l=true):M.leads f e l=true:=by
 unfold aZ at h;rw[bT]at h;exact h.1
theorem mN {M:St}{r:Rec}(g:kO M r)(E:M.n≤16)(B:0≤r.I)(j:r.al=3∨r.al=4)(I:r.J≠r.I):M.br ⟨r.al,r.I+1,r.J,r.lo,r.hi⟩=false:=by
 have B:=g.tb;have B:=g.bn;have z:=(a9.1 g.lo).1;have A:=(a9.1 g.hi).1;unfold St.br;simp only[Bool.or_eq_false_iff,Bool.not_eq_false'];refine⟨⟨?_,g.lo⟩,g.hi⟩;unfold fT aR fQ fN
 have s:¬(!(decide (1≤r.al)&&decide (r.al≤5))||!(decide (0≤M.n)&&decide (M.n≤16))||decide (r.J<r.I+1)||decide (M.n≤r.J)||(r.I+1 != r.J&&!(r.al==3||r.al==4)))=true:=by
  simp only[dS,Bool.not_eq_true',bT,Bool.and_eq_false_iff,Bool.or_eq_false_iff,decide_eq_false_iff_not,bC,beq_eq_false_iff_ne];have:=g.f1;have:=g.f5;omega
 rw[ag s,ag (by rw[z,A];simp)];rcases j with j|j
 ·rw[ag (by simp[j])];have:=g.apart (by omega) (by omega);cases q:(r.lo.tag==r.hi.tag&&r.lo.to==r.hi.to)with
  |false=>rfl
  |true=>
   simp only[bT,beq_iff_eq]at q;exact absurd (by cases t:r.lo;cases s:r.hi;rw[t,s]at q;simp at q;rw[q.1,q.2]) this
 ·rw[ah (by simp[j])];simpa using g.zero (.inr j)
theorem xN {M:St}(h:M.wf)(j:M.cs.length≤1048576)(r:Rec):0≤M.bd r∧M.bd r≤4294967295:=by
 unfold St.bd;cases hi:M.bD r with
 |some id=>have:=ck (jA hi);simp only[];omega
 |none=>
  simp only[];have:=mK h.gone;split;·omega
  ·split<;>omega
theorem jx {M:St}(h:M.wf)(q:M.cs.length≤1048576)(j:Int)(s:0≤j∧j≤255)(r:Rec):(bz M j r).ok:=by
 unfold bz;split;·exact⟨s,xN h q r⟩
 ·exact⟨⟨by show(0:Int)≤0;omega,by show(0:Int)≤255;omega⟩,⟨by show(0:Int)≤0;omega,by show(0:Int)≤4294967295;omega⟩⟩
theorem ff:(⟨0,0⟩:Edge).ok:=⟨by decide,by decide⟩
theorem pT {M:St}(h:M.wf)(s:M.cs.length≤1048576)(z:∀id r,look M.cs id=some r→r.ok){f:Int}{e:Edge}{l:Int}(j:e.ok)(A:0≤l)(B:l<M.n) :
  (cz M (aj M f e l)).ok∧(bL M f (aj M f e l)).ok:=by
 have A:=h.bw
 have t:(aN f l e).1.ok∧(aN f l e).2.1.ok:=by
  unfold aN;split;·exact⟨j,j⟩
  ·split;·exact⟨⟨⟨by show 0≤l+1;omega,by show l+1≤255;omega⟩,j.2⟩,ff⟩
   ·exact⟨j,ff⟩
 unfold aj
 split
 ·exact⟨ff,ff⟩
 ·split;·exact⟨ff,ff⟩
  ·split;·exact⟨j,j⟩
   ·cases j:look M.cs e.to with
    |none=>exact t
    |some r=>
     have q:=z _ _ j;simp only[];split;·exact t
     ·split
      ·refine⟨jx h s 0 (by omega) _,?_⟩;show(if M.a' _=0 then(if f=4 then bz M 0 _ else _)else⟨0,0⟩:Edge).ok;split
       ·split;·exact jx h s 0 (by omega) _
        ·exact q.hi
       ·exact ff
      ·exact⟨q.lo,q.hi⟩
end Go.Proofs.YtafkamlhimkbmaaGreat
