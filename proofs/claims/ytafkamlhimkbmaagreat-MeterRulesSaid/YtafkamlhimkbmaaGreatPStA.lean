/-
  The state of a store, plainly: cells by ids, ids that went, the variables, the room; and what the store's functions make of it.
-/
import Derived.Test.YtafkamlhimkbmaaGreatPArenaA
import Derived.Sort.AssemblyPlain
namespace Go.Proofs.YtafkamlhimkbmaaGreat
set_option maxRecDepth 1000000
set_option maxHeartbeats 8000000
set_option linter.unusedSimpArgs false
set_option linter.unusedVariables false
structure St where
 cs:List (Option Rec)
 gone:List Int
 n:Int
 a7:Int
def St.len (M:St):Int:=(M.cs.length:Int)-(M.gone.length:Int)
def St.b9 (M:St)(r:Rec):Option Int:=(M.cs.findIdx? (fun o=>decide (o=some r))).map (fun i=>(i:Int)+2)
def St.leads (M:St)(f:Int)(e:Edge)(l:Int):Bool:=
 eH f e l M.n&&(decide (e.to<2)||match look M.cs e.to with
  |some r=>r.ad==f&&decide (l≤r.top)&&decide (e.tag≤r.top)
  |none=>false)
def St.b2 (M:St)(r:Rec):Bool:=!iq r M.n||!M.leads r.ad r.lo (r.J+1)||!M.leads r.ad r.hi (r.J+1)
def St.bs (M:St)(r:Rec):Int:=
 match M.b9 r with
 |some id=>id
 |none=>if M.b2 r then 0 else if M.a7≤M.len then 0 else dT M.gone M.cs.length
def St.bh (M:St)(r:Rec):Int:=
 match M.b9 r with
 |some _=>0
 |none=>if M.b2 r then 1 else if M.a7≤M.len then 6 else 0
def St.ba (M:St)(r:Rec):St:=
 match M.b9 r with
 |some _=>M
 |none=>if M.b2 r then M else if M.a7≤M.len then M else { M with cs:=cV M.cs M.gone r,gone:=M.gone.dropLast }
theorem iM {cs:List (Option Rec)}{i:Nat}{r:Rec}:look cs ((i:Int)+2)=some r↔cs[i]?=some (some r):=by
 have s:¬(i:Int)+2<2:=by omega
 have t:((i:Int)+2-2).toNat=i:=by omega
 unfold look;rw[ag s,t];cases h:cs[i]? with
 |none=>simp
 |some x=>simp
theorem lU {M:St}{r:Rec}{id:Int}(h:M.b9 r=some id):look M.cs id=some r:=by
 unfold St.b9 at h;cases s:M.cs.findIdx? (fun o=>decide (o=some r))with
 |none=>rw[s]at h;simp at h
 |some i=>
  rw[s]at h;simp at h;obtain⟨hi,t,_⟩:=List.findIdx?_eq_some_iff_getElem.1 s;subst h;rw[iM,aQ hi];simpa using t
theorem lV {M:St}{r:Rec}(h:M.b9 r=none)(id:Int):look M.cs id≠some r:=by
 intro z;obtain⟨D,E,t⟩:=cC z;unfold St.b9 at h
 have s:M.cs.findIdx? (fun o=>decide (o=some r))=none:=by
  cases u:M.cs.findIdx? (fun o=>decide (o=some r))with
  |none=>rfl
  |some i=>rw[u]at h;simp at h
 rw[List.findIdx?_eq_none_iff]at s;have:=s (some r) (dy t);simp at this
def St.b5 (M:St):Prop:=∀r id s,look M.cs id=some r→look M.cs s=some r→id=s
theorem ks {M:St}(h:M.b5)(r:Rec)(id:Int):look M.cs id=some r↔M.b9 r=some id:=by
 constructor
 ·intro s;cases hi:M.b9 r with
  |none=>exact(lV hi id s).elim
  |some t=>rw[h r id t s (lU hi)]
 ·exact lU
theorem vm {cs:List (Option Rec)}{gone:List Int}{r:Rec}(I:∀id∈gone,2≤id∧id-2<(cs.length:Int)∧look cs id=none)(id:Int)(t:Rec) :
  look (cV cs gone r) id=some t↔(id=dT gone cs.length∧t=r)∨look cs id=some t:=by
 unfold cV dT
 cases N:gone.getLast? with
 |none=>
  simp only[];constructor
  ·intro h;obtain⟨z,u,s⟩:=cC h;by_cases E:(id-2).toNat<cs.length
   ·right;rw[j7 E]at s;have:=iM.2 s;rwa[show(((id-2).toNat:Nat):Int)+2=id by omega]at this
   ·left;rw[j8 (by omega)]at s;simp at u;have e:(id-2).toNat-cs.length=0:=(by omega);rw[e]at s;simp at s;exact⟨by omega,s.symm⟩
  ·rintro(⟨rfl,rfl⟩|h);·rw[iM];simp
   ·obtain⟨z,u,s⟩:=cC h;have:=(iM (cs:=cs++[some r]) (i:=(id-2).toNat) (r:=t)).2 (by rw[j7 (by omega)];exact s);rwa[show(((id-2).toNat:Nat):Int)+2=id by omega]at this
 |some x=>
  simp only[];obtain⟨gs,J⟩:=List.getLast?_eq_some_iff.1 N;obtain⟨E,N,Q⟩:=I x (by rw[J];simp);have D:(x-2).toNat<cs.length:=by omega
  constructor
  ·intro h;obtain⟨z,u,s⟩:=cC h;rw[List.getElem?_set]at s;split at s
   ·rename_i he;left;simp[D]at s;exact⟨by omega,s.symm⟩
   ·right;have:=iM.2 s;rwa[show(((id-2).toNat:Nat):Int)+2=id by omega]at this
  ·rintro(⟨rfl,rfl⟩|h)
   ·have:=(iM (cs:=cs.set (id-2).toNat (some t)) (i:=(id-2).toNat) (r:=t)).2 (by simp[D]);rwa[show(((id-2).toNat:Nat):Int)+2=id by omega]at this
   ·obtain⟨z,u,s⟩:=cC h
    have O:(x-2).toNat≠(id-2).toNat:=by
     intro e;have:x=id:=(by omega);subst this;rw[Q]at h;cases h
    have:=(iM (cs:=cs.set (x-2).toNat (some r)) (i:=(id-2).toNat) (r:=t)).2 (by rw[List.getElem?_set,ag O];exact s);rwa[show(((id-2).toNat:Nat):Int)+2=id by omega]at this
structure St.wf (M:St):Prop where
 n0:0≤M.n
 b0:M.n≤16
 gone:∀id∈M.gone,2≤id∧id-2<(M.cs.length:Int)∧look M.cs id=none
 nodup:M.gone.Nodup
 hG:∀id r,look M.cs id=some r→M.b2 r=false
 b5:M.b5
 hL:0≤M.len
 h4:0≤M.a7
 hX:M.a7≤1048576
 h7:M.len≤M.a7
theorem mc {M M':St}(z:M'.n=M.n)(u:∀id r,look M.cs id=some r→look M'.cs id=some r){f:Int}{e:Edge}{l:Int}(h:M.leads f e l=true):M'.leads f e l=true:=by
 unfold St.leads at h ⊢;rw[z];simp only[cA,dL]at h ⊢;refine⟨h.1,?_⟩;rcases h.2 with s|s;·exact .inl s
 ·right;cases t:look M.cs e.to with
  |none=>rw[t]at s;simp at s
  |some r=>rw[u _ _ t];rw[t]at s;exact s
theorem nj {M M':St}(s:M'.n=M.n)(t:∀id r,look M.cs id=some r→look M'.cs id=some r){r:Rec}(h:M.b2 r=false):M'.b2 r=false:=by
 unfold St.b2 at h ⊢;simp only[Bool.or_eq_false_iff,Bool.not_eq_false']at h ⊢;exact⟨⟨by rw[s];exact h.1.1,mc s t h.1.2⟩,mc s t h.2⟩
theorem po {cs:List (Option Rec)}{gone:List Int}{r:Rec}:((cV cs gone r).length:Int)-(gone.dropLast.length:Int)=(cs.length:Int)-(gone.length:Int)+1:=by
 unfold cV;cases s:gone.getLast? with
 |none=>
  have:gone=[]:=by simpa using s
  subst this;simp
 |some x=>
  obtain⟨gs,t⟩:=List.getLast?_eq_some_iff.1 s;subst t;simp;omega
theorem mB {cs:List (Option Rec)}{gone:List Int}(u:∀id∈gone,2≤id∧id-2<(cs.length:Int)∧look cs id=none):2≤dT gone cs.length∧dT gone cs.length≤(cs.length:Int)+2∧look cs (dT gone cs.length)=none:=by
 unfold dT;cases E:gone.getLast? with
 |none=>
  refine⟨by simp only[];omega,by simp only[];omega,?_⟩;simp only[];cases D:look cs ((cs.length:Int)+2)with
  |none=>rfl
  |some r=>have:=cC D;omega
 |some x=>
  obtain⟨gs,z⟩:=List.getLast?_eq_some_iff.1 E;obtain⟨s,D,t⟩:=u x (by rw[z];simp);exact⟨s,by simp only[];omega,t⟩
def St.add (M:St)(r:Rec):St:={ M with cs:=cV M.cs M.gone r,gone:=M.gone.dropLast }
theorem St.wf.fl {M:St}(h:M.wf)(r:Rec)(id:Int)(s:Rec):look (M.add r).cs id=some s↔(id=dT M.gone M.cs.length∧s=r)∨look M.cs id=some s:=vm h.gone id s
theorem St.fb (M:St)(r:Rec):(M.add r).len=M.len+1:=po
theorem St.wf.add {M:St}(h:M.wf){r:Rec}(T:M.b9 r=none)(Y:M.b2 r=false)(Z:M.len<M.a7):(M.add r).wf:=by
 have t:=h.fl r;have U:∀id s,look M.cs id=some s→look (M.add r).cs id=some s:=fun id s Z=>(t id s).2 (.inr Z);have Z:=M.fb r;refine⟨h.n0,h.b0,?_,?_,?_,?_,?_,h.h4,h.hX,?_⟩
 ·intro id hid;replace hid:id∈M.gone.dropLast:=hid;have N:id∈M.gone:=(List.dropLast_sublist _).mem hid;obtain⟨g1,Z,W⟩:=h.gone id N;refine⟨g1,?_,?_⟩
  ·have:=@yz M.cs M.gone r;show id-2<((cV M.cs M.gone r).length:Int);omega
  ·cases u:look (M.add r).cs id with
   |none=>rfl
   |some s=>
    exfalso;rcases(t id s).1 u with⟨e,_⟩|e
    ·cases J:M.gone.getLast? with
     |none=>
      have:M.gone=[]:=(by simpa using J);rw[this]at N;simp at N
     |some x=>
      have ab:dT M.gone M.cs.length=x:=(by unfold dT;rw[J]);obtain⟨gs,N⟩:=List.getLast?_eq_some_iff.1 J;have O:=h.nodup;rw[N]at O hid;simp at hid;rw[List.nodup_append]at O;exact O.2.2 id hid x (by simp) (e.trans ab)
    ·rw[W]at e;cases e
 ·exact List.Nodup.sublist (List.dropLast_sublist _) h.nodup
 ·intro id s u;rcases(t id s).1 u with⟨_,rfl⟩|u
  ·exact nj (M:=M) (M':=M.add s) rfl U Y
  ·exact nj (M:=M) (M':=M.add r) rfl U (h.hG id s u)
 ·intro s id D X Q;rcases(t id s).1 X with⟨V,E⟩|I
  ·rcases(t D s).1 Q with⟨u,_⟩|z
   ·rw[V,u]
   ·rw[E]at z;exact(lV T D z).elim
  ·rcases(t D s).1 Q with⟨_,E⟩|z
   ·rw[E]at I;exact(lV T id I).elim
   ·exact h.b5 s id D I z
 ·have:=h.hL;omega
 ·show(M.add r).len≤M.a7;omega
theorem St.wf.gz {M:St}(h:M.wf)(r:Rec):(M.ba r).wf:=by
 unfold St.ba;cases hi:M.b9 r with
 |some id=>exact h
 |none=>
  simp only[];split;·exact h
  ·split;·exact h
   ·exact h.add hi (by simpa using ‹¬M.b2 r=true›) (by omega)
open Go.Sort
def lh (cs:List (Option Rec))(S:Int→Prop):Prop:=
 ∀id r,S id→look cs id=some r→(look cs r.lo.to≠none→S r.lo.to)∧(look cs r.hi.to≠none→S r.hi.to)
def Reaches (cs:List (Option Rec))(roots:List Int)(id:Int):Prop:=
 ∀S:Int→Prop,(∀e∈roots,look cs e≠none→S e)→lh cs S→S id
theorem Reaches.root {cs:List (Option Rec)}{roots:List Int}{id:Int}(h:id∈roots)(t:look cs id≠none):Reaches cs roots id:=fun _ s _=>s id h t
theorem Reaches.closed (cs:List (Option Rec))(roots:List Int):lh cs (Reaches cs roots):=
 fun id r h u=>⟨fun t S hS s=>((s id r (h S hS s) u).1 t),fun t S hS s=>((s id r (h S hS s) u).2 t)⟩
theorem Reaches.some {cs:List (Option Rec)}{roots:List Int}{id:Int}(h:Reaches cs roots id):look cs id≠none:=
 h (fun x=>look cs x≠none) (fun _ _ h=>h) (fun _ _ _ _=>⟨fun h=>h,fun h=>h⟩)
theorem Reaches.mono {cs:List (Option Rec)}{a b:List Int}(h:∀x∈a,x∈b){id:Int}(t:Reaches cs a id):Reaches cs b id:=
 fun S hS s=>t S (fun e he t=>hS e (h e he) t) s
theorem Reaches.below {cs:List (Option Rec)}{a b:List Int}(h:∀x∈a,look cs x≠none→Reaches cs b x){id:Int}(t:Reaches cs a id):Reaches cs b id:=
 fun S hS s=>t S (fun e he t=>h e he t S hS s) s
structure eQ (cs:List (Option Rec))(e:Int)(S T:List Int):Prop where
 e':look cs e≠none→e∈S++T
 e2:∀id∈T,∀r,look cs id=some r→(look cs r.lo.to≠none→r.lo.to∈S++T)∧(look cs r.hi.to≠none→r.hi.to∈S++T)
 e9:∀id∈T,Reaches cs [e] id
 b5:T.Nodup
 apart:∀id∈T,id∉S
theorem eQ.none {cs:List (Option Rec)}{e:Int}{S:List Int}(h:look cs e=none):eQ cs e S []:=
 ⟨fun s=>absurd h s,by simp,by simp,by simp,by simp⟩
theorem eQ.ga {cs:List (Option Rec)}{e:Int}{S:List Int}(h:e∈S):eQ cs e S []:=
 ⟨fun _=>by simpa using h,by simp,by simp,by simp,by simp⟩
theorem eQ.fX {cs:List (Option Rec)}{e:Int}{r:Rec}{S u E:List Int}(I:look cs e=some r)(W:e∉S)(s:eQ cs r.lo.to (S++[e]) u)(t:eQ cs r.hi.to (S++[e]++u) E):eQ cs e S (e::(u++E)):=by
 have Q:S++e::(u++E)=S++[e]++u++E:=by simp
 have J:Reaches cs [e] e:=Reaches.root (by simp) (by rw[I];simp);refine⟨fun _=>by simp,?_,?_,?_,?_⟩
 ·intro id hid O z;rw[Q];rcases List.mem_cons.1 hid with rfl|hid
  ·rw[I]at z;cases z;exact⟨fun h=>fY _ (s.e' h),fun h=>t.e' h⟩
  ·rcases List.mem_append.1 hid with hid|hid;·exact⟨fun h=>fY _ ((s.e2 id hid O z).1 h),fun h=>fY _ ((s.e2 id hid O z).2 h)⟩
   ·exact t.e2 id hid O z
 ·intro id hid;rcases List.mem_cons.1 hid with rfl|hid;·exact J
  ·rcases List.mem_append.1 hid with hid|hid;·exact(s.e9 id hid).below (fun x D N=>by rw[cZ]at D;subst D;exact(Reaches.closed cs [e] e r J I).1 N)
   ·exact(t.e9 id hid).below (fun x D N=>by rw[cZ]at D;subst D;exact(Reaches.closed cs [e] e r J I).2 N)
 ·refine List.nodup_cons.2 ⟨?_,List.nodup_append.2 ⟨s.b5,t.b5,?_⟩⟩
  ·intro hm;rcases List.mem_append.1 hm with hm|hm;·exact s.apart e hm (by simp)
   ·exact t.apart e hm (by simp)
  ·intro a T b V U;subst U;exact t.apart a V (List.mem_append_right _ T)
 ·intro id hid hs;rcases List.mem_cons.1 hid with rfl|hid;·exact W hs
  ·rcases List.mem_append.1 hid with hid|hid;·exact s.apart id hid (by simp[hs])
   ·exact t.apart id hid (by simp[hs])
structure fA (cs:List (Option Rec))(es:List Int)(S:List Int):Prop where
 e':∀e∈es,look cs e≠none→e∈S
 e2:lh cs (fun id=>id∈S)
 e9:∀id∈S,Reaches cs es id
 b5:S.Nodup
theorem fA.nil (cs:List (Option Rec)):fA cs [] []:=⟨by simp,fun _ _ h=>by simp at h,by simp,by simp⟩
theorem fA.step {cs:List (Option Rec)}{es S z:List Int}{e:Int}(h:fA cs es S)(u:eQ cs e S z):fA cs (es++[e]) (S++z):=by
 refine⟨?_,?_,?_,?_⟩
 ·intro x s t;rcases List.mem_append.1 s with s|s;·exact fY _ (h.e' x s t)
  ·rw[cZ]at s;subst s;exact u.e' t
 ·intro id r hid t;rcases List.mem_append.1 hid with hid|hid;·exact⟨fun z=>fY _ ((h.e2 id r hid t).1 z),fun z=>fY _ ((h.e2 id r hid t).2 z)⟩
  ·exact u.e2 id hid r t
 ·intro id hid;rcases List.mem_append.1 hid with hid|hid;·exact(h.e9 id hid).mono (fun x s=>fY _ s)
  ·exact(u.e9 id hid).mono (fun x s=>List.mem_append_right _ s)
 ·refine List.nodup_append.2 ⟨h.b5,u.b5,?_⟩;intro a D b I E;subst E;exact u.apart a I D
theorem fA.hf {cs:List (Option Rec)}{es S:List Int}(h:fA cs es S)(id:Int):id∈S↔Reaches cs es id:=
 ⟨h.e9 id,fun s=>s (fun x=>x∈S) (fun e he s=>h.e' e he s) h.e2⟩
noncomputable def bV (cs:List (Option Rec))(roots:List Int):List Int:=
 letI:=Classical.propDecidable
 ((List.range cs.length).map (fun i:Nat=>(i:Int)+2)).filter (fun id=>decide (Reaches cs roots id))
theorem fJ {cs:List (Option Rec)}{roots:List Int}{id:Int}:id∈bV cs roots↔Reaches cs roots id:=by
 unfold bV;rw[List.mem_filter];simp only[cm];refine⟨fun h=>h.2,fun h=>⟨?_,h⟩⟩;cases s:look cs id with
 |none=>exact absurd s h.some
 |some r=>
  obtain⟨t,u,_⟩:=cC s;exact List.mem_map.2 ⟨(id-2).toNat,List.mem_range.2 (by omega),by omega⟩
theorem mC (cs:List (Option Rec))(roots:List Int):(bV cs roots).Pairwise (·<·):=by
 unfold bV;refine List.Pairwise.filter _ (List.pairwise_map.2 (List.Pairwise.imp (R:=(·<·)) ?_ List.pairwise_lt_range));intro a b h;omega
theorem pE:∀{a b:List Int},a.Pairwise (·<·)→b.Pairwise (·<·)→(∀x,x∈a↔x∈b)→a=b
 |[],[],_,_,_=>rfl
 |[],y::b,_,_,h=>by have:=(h y).2 (by simp);simp at this
 |x::a,[],_,_,h=>by have:=(h x).1 (by simp);simp at this
 |x::a,y::b,O,Q,h=>by
  obtain⟨E,J⟩:=List.pairwise_cons.1 O;obtain⟨I,N⟩:=List.pairwise_cons.1 Q
  have e:x=y:=by
   have s:=(h x).1 (by simp);have t:=(h y).2 (by simp);rcases List.mem_cons.1 s with s|s;·exact s
   ·rcases List.mem_cons.1 t with t|t;·exact t.symm
    ·have:=I x s;have:=E y t;omega
  subst e;congr 1
  refine pE J N fun z=>⟨fun u=>?_,fun u=>?_⟩
  ·rcases List.mem_cons.1 ((h z).1 (ew _ u))with e|D;·subst e;have:=E z u;omega
   ·exact D
  ·rcases List.mem_cons.1 ((h z).2 (ew _ u))with e|D;·subst e;have:=I z u;omega
   ·exact D
theorem yV {cs:List (Option Rec)}{roots S:List Int}{d d':Array Int}(h:fA cs roots S)(J:d.toList.Perm S)(Q:PermIn 0 d.size d d')(hs:SortedIn ltInt 0 d.size d'):d'.toList=bV cs roots:=by
 obtain⟨t,T,u⟩:=Q;have D:d.extract 0 d.size=d:=by simp
 have E:d'.extract 0 d.size=d':=by rw[←t];simp
 rw[D,E]at u;have z:=u.trans J;have O:d'.toList.Nodup:=z.nodup_iff.2 h.b5;refine pE ?_ (mC _ _) fun x=>?_
 ·rw[List.pairwise_iff_getElem];intro i j hi s u;have I:=hs i j (Nat.zero_le _) u (by rw[←t];simpa using s);have hi':i<d'.size:=by simpa using hi
  have N:j<d'.size:=by simpa using s
  simp only[ltInt,getElem!_pos d' i hi',getElem!_pos d' j N,decide_eq_false_iff_not]at I
  have t:d'[i]≠d'[j]:=fun e=>by
   have:=(List.getElem_inj (h₀:=hi) (h₁:=s) O).1 (by simpa using e);omega
  simp only[Array.getElem_toList];omega
 ·rw[z.mem_iff,h.hf,fJ]
structure jx (M:St)(r:Rec):Prop where
 f1:1≤r.ad
 f5:r.ad≤5
 tb:r.top≤r.J
 bn:r.J<M.n
 chain:r.top=r.J∨fF r.ad=true
 lo:M.leads r.ad r.lo (r.J+1)=true
 hi:M.leads r.ad r.hi (r.J+1)=true
 zero:r.ad=2∨r.ad=4→r.hi.to≠0
 apart:r.ad≠2→r.ad≠4→r.lo≠r.hi
theorem nT {M:St}{r:Rec}(h:M.b2 r=false):jx M r:=by
 unfold St.b2 at h;simp only[Bool.or_eq_false_iff,Bool.not_eq_false']at h;obtain⟨⟨s,z⟩,D⟩:=h;unfold iq at s;split at s;·cases s
 ·rename_i t;simp only[dL,cA,Bool.not_eq_true',cm,not_or,not_and,bne_iff_ne,ne_eq,Bool.not_eq_false]at t;obtain⟨⟨⟨⟨t,_⟩,J⟩,N⟩,u⟩:=t;have t:bZ r.ad=true:=by cases h:bZ r.ad<;>simp_all
  unfold bZ at t;simp only[cA,cm]at t;split at s;·cases s
  ·refine⟨by omega,by omega,by omega,by omega,?_,z,D,?_,?_⟩
   ·by_cases he:r.top=r.J;·exact .inl he
    ·exact .inr (u he)
   ·intro t;have:(r.ad==2||r.ad==4)=true:=(by simpa using t);rw[ai this]at s;simpa using s
   ·intro E I he;have:¬(r.ad==2||r.ad==4)=true:=(by simp[E,I]);rw[ag this,he]at s;simp at s
theorem St.wf.b4 {M:St}(h:M.wf){id:Int}{r:Rec}(s:look M.cs id=some r):jx M r:=nT (h.hG id r s)
theorem iK {M:St}{f:Int}{e:Edge}{l:Int}(h:M.leads f e l=true):eH f e l M.n=true∧(e.to<2∨∃r,look M.cs e.to=some r∧r.ad=f∧l≤r.top∧e.tag≤r.top):=by
 unfold St.leads at h;simp only[cA,dL,cm]at h;refine⟨h.1,?_⟩;rcases h.2 with s|s;·exact .inl s
 ·right;cases t:look M.cs e.to with
  |none=>rw[t]at s;cases s
  |some r=>
   rw[t]at s;simp only[cA,cm,beq_iff_eq]at s;exact⟨r,rfl,s.1.1,s.1.2,s.2⟩
theorem nx {M:St}(h:M.wf){id:Int}{r s:Rec}(D:look M.cs id=some r){e:Edge}(he:e=r.lo∨e=r.hi)(t:look M.cs e.to=some s):r.top<s.top∧s.ad=r.ad:=by
 have g:=h.b4 D;have s:=(cC t).1;have E:M.leads r.ad e (r.J+1)=true:=by rcases he with rfl|rfl;exact g.lo;exact g.hi
 rcases(iK E).2 with s|⟨x,u,z,s,_⟩;·omega
 ·rw[t]at u;cases u;have:=g.tb;exact⟨by omega,z⟩
end Go.Proofs.YtafkamlhimkbmaaGreat
