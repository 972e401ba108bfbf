/-
  The walk of ramageref12.Parts.
-/
import Derived.Test.YtafkamlhimkbmaaGreatPRightQ
import Derived.Test.YtafkamlhimkbmaaGreatPSweepA
import Derived.Test.YtafkamlhimkbmaaGreatPUnfBase
import Derived.Deep.CutBlock
import Derived.Maps.OwnIn
namespace Go.Proofs.YtafkamlhimkbmaaGreat
set_option maxRecDepth 1000000
set_option maxHeartbeats 8000000
set_option linter.unusedSimpArgs false
set_option linter.unusedVariables false
open Go.RowKit
def eA:List UInt8→Nat→Nat
 |[],_=>0
 |_::_,0=>0
 |b::u,d+1=>1+eA u (if b=40 then d+2 else if b=41 then d else d+1)
theorem Cf (u:List UInt8):eA u 0=0:=by cases u<;>rfl
def kZ (l:List UInt8)(i:Nat):Nat:=i+1+eA (l.drop (i+1)) 1
def fS (j:ByteArray):Nat→List ByteArray
 |0=>[]
 |i+1=>if j.data.toList[i]?=some 40 then(if(fS j i).any (fun q=>q.toList==(j.extract i (kZ j.data.toList i)).toList)then fS j i else fS j i++[j.extract i (kZ j.data.toList i)])else fS j i
def iC (out:List (List UInt8))(x:List UInt8):List (List UInt8):=if x∈out then out else out++[x]
def ps:List UInt8→List (List UInt8)→List (List UInt8)
 |[],out=>out
 |b::u,out=>ps u (if b=40 then iC out ((b::u).take (1+eA u 1))else out)
theorem xI (q:ByteArray)(i j:Nat):(q.extract i j).data.toList=(q.data.toList.drop i).take (j-i):=by
 rw[ByteArray.data_extract,Array.toList_extract]
theorem Ax (j:ByteArray):∀(u:List UInt8) (i:Nat),j.data.toList.drop i=u→i+u.length=j.size→ps u ((fS j i).map (fun q=>q.data.toList))=(fS j j.size).map (fun q=>q.data.toList):=by
 intro u;induction u with
 |nil=>
  intro i _ t;simp at t;rw[t];rfl
 |cons b u N=>
  intro i B t
  have I:j.data.toList.drop (i+1)=u:=by
   have:=congrArg List.tail B;rw[List.tail_drop]at this;exact this
  have L:j.data.toList[i]?=some b:=by
   have:=congrArg (fun l=>l[0]?) B;simp only[List.getElem?_drop,gA,List.getElem?_cons_zero]at this;exact this
  rw[←N (i+1) I (by simp at t;omega)];show ps u _=ps u _;congr 1
  show _=(if j.data.toList[i]?=some 40 then _ else _:List ByteArray).map _;rw[L];by_cases A:b=40
  ·subst A;rw[ah rfl,ah rfl]
   have hcut:(j.extract i (kZ j.data.toList i)).data.toList=(40::u).take (1+eA u 1):=by
    rw[xI,B];congr 1
    unfold kZ;rw[I];omega
   have J:(fS j i).any (fun q=>q.toList==(j.extract i (kZ j.data.toList i)).toList)=decide ((40::u).take (1+eA u 1)∈(fS j i).map (fun q=>q.data.toList)):=by
    rw[Bool.eq_iff_iff];simp only[List.any_eq_true,bC,List.mem_map,beq_iff_eq];constructor
    ·rintro⟨q,E,s⟩;rw[ByteArray.toList_eq,ByteArray.toList_eq,hcut]at s;exact⟨q,E,s⟩
    ·rintro⟨q,E,s⟩;exact⟨q,E,by rw[ByteArray.toList_eq,ByteArray.toList_eq,hcut,s]⟩
   unfold iC;rw[J];by_cases z:(40::u).take (1+eA u 1)∈(fS j i).map (fun q=>q.data.toList);·rw[ah z,bc z,ah rfl]
   ·rw[ag z,aY z,ag (by decide),fL,List.map_cons,hcut];rfl
  ·rw[ag A,ag (fun e=>A (by cases e;rfl))]
def Flat (u:List UInt8):Prop:=∀b∈u,b≠40∧b≠41
theorem mS {u:List UInt8}(h:Flat u)(v:List UInt8)(d:Nat):eA (u++v) (d+1)=u.length+eA v (d+1):=by
 induction u with
 |nil=>simp
 |cons b u q=>
  have j:=h b List.mem_cons_self;show 1+eA (u++v) _=_;rw[ag j.1,ag j.2,q (fun x j=>h x (eE _ j)),dm];omega
theorem pg {u:List UInt8}(h:Flat u)(v:List UInt8)(out:List (List UInt8)):ps (u++v) out=ps v out:=by
 induction u generalizing out with
 |nil=>rfl
 |cons b u q=>
  have j:=h b List.mem_cons_self;show ps (u++v) _=_;rw[ag j.1,q (fun x j=>h x (eE _ j))]
def dB (k:Int):UInt8:=UInt8.ofNat (48+k).toNat
theorem iD {k:Int}(j:0≤k)(q:k<10):dB k≠40∧dB k≠41∧dB k≠64:=by
 have:k=0∨k=1∨k=2∨k=3∨k=4∨k=5∨k=6∨k=7∨k=8∨k=9:=by omega
 rcases this with rfl|rfl|rfl|rfl|rfl|rfl|rfl|rfl|rfl|rfl<;>decide
theorem iY {k j:Int}(q:0≤k)(s:k<10)(t:0≤j)(z:j<10)(h:dB k=dB j):k=j:=by
 have:=congrArg UInt8.toNat h;unfold dB at this;rw[UInt8.toNat_ofNat',UInt8.toNat_ofNat']at this;omega
def bA (f:Int)(M:St)(n:Nat)(e:Edge):List UInt8:=(bR f M n e).data.toList
def jF (f:Int)(e:Edge):List UInt8:=if f=5 then [dB e.tag,64]else []
def gD (f:Int)(r:Rec):List UInt8:=if f=3∨f=4 then [dB r.I,58,dB r.J,32]else [dB r.I,32]
def jD (f:Int)(e:Edge):List UInt8:=if f=5 then(if e.to=0 then [48]else [dB e.tag,64,49])else [dB e.to]
def ey (f:Int)(M:St)(n:Nat)(r:Rec):List UInt8:=40::(gD f r++(bA f M n r.lo++32::(bA f M n r.hi++[41])))
theorem l7 (k:Int):(bQ k).data.toList=[dB k]:=rfl
theorem iP {f:Int}{M:St}{n:Nat}{e:Edge}(q:0≤e.to)(h:e.to<2):bA f M (n+1) e=jD f e:=by
 unfold bA bR jD;by_cases j:f=5
 ·rw[ah j,ah j];by_cases q:e.to=0;·rw[ah q,ah q]
  ·rw[ag q,ag q,ah (by omega)];simp[ByteArray.data_append,l7]
 ·rw[ag j,ag j,ah h];rfl
theorem iQ {f:Int}{M:St}{n:Nat}{e:Edge}{r:Rec}(h:look M.cs e.to=some r):bA f M (n+1) e=jF f e++ey f M n r:=by
 have t:=(ck h).1;have s:aA (look M.cs e.to)=r:=by rw[h];rfl
 unfold bA bR jF ey gD;rw[s];by_cases q:f=5
 ·rw[ah q,ah q,ag (by omega),ag (by omega),ag (by omega)];simp[ByteArray.data_append,l7,bA]
 ·rw[ag q,ag q,ag (by omega)];by_cases j:f=3∨f=4
  ·rw[ah j,ah j];simp[ByteArray.data_append,l7,bA]
  ·rw[ag j,ag j];simp[ByteArray.data_append,l7,bA]
structure dH (f:Int)(M:St):Prop where
 wf:M.wf
 b0:∀id r,look M.cs id=some r→0≤r.lo.to∧0≤r.hi.to
 n9:M.n≤9
structure At (f:Int)(M:St)(e:Edge)(l:Int)(n:Nat):Prop where
 lead:M.leads f e l=true
 ok:0≤e.to
 hv:M.n<l+n
theorem At.tag {f:Int}{M:St}{e:Edge}{l:Int}{n:Nat}(t:dH f M)(h:At f M e l n):0≤e.tag∧e.tag<10∧(f≠5∨e.to=0→e.tag=0)∧0≤l:=by
 obtain⟨j,_⟩:=jC h.lead;have A:=t.n9;unfold dE at j;split at j;·cases j
 ·rename_i z;simp only[dS,bC,not_or]at z;split at j
  ·rename_i s;have t:e.tag=0:=(by simpa using j);exact⟨by omega,by omega,fun _=>t,by omega⟩
  ·rename_i s;simp only[dS,bne_iff_ne,ne_eq,beq_iff_eq,not_or,Decidable.not_not]at s;simp only[bT,bC]at j;exact⟨by omega,by omega,fun q=>by rcases q with q|q;exact absurd s.1 q;exact absurd q s.2,by omega⟩
theorem At.cases {f:Int}{M:St}{e:Edge}{l:Int}{n:Nat}(q:dH f M)(h:At f M e l (n+1)) :
  (0≤e.to∧e.to<2)∨(∃r,look M.cs e.to=some r∧r.al=f∧l≤r.I∧r.I≤r.J∧r.J<M.n∧0≤r.I∧r.I<10∧r.J<10∧(r.I=r.J∨f=3∨f=4)∧At f M r.lo (r.J+1) n∧At f M r.hi (r.J+1) n):=by
 obtain⟨I,s⟩:=jC h.lead
 have I:=q.n9
 rcases s with s|⟨r,t,B,E,_⟩
 ·exact .inl ⟨h.ok,s⟩
 ·right;have g:=q.wf.b6 t;have A:=q.b0 _ _ t;have:=g.tb;have:=g.bn;have z:=h.hv;have s:=(h.tag q).2.2.2;subst B;refine⟨r,t,rfl,E,g.tb,g.bn,by omega,by omega,by omega,?_,⟨g.lo,A.1,by push_cast at z;omega⟩,⟨g.hi,A.2,by push_cast at z;omega⟩⟩;rcases g.chain with j|j;·exact .inl j
  ·unfold fN at j;simp only[dS,beq_iff_eq]at j;exact .inr j
theorem At.pos {f:Int}{M:St}{e:Edge}{l:Int}{n:Nat}(s:dH f M)(h:At f M e l n):∃m,n=m+1:=by
 have j:=(jC h.lead).1;have s:=h.hv;unfold dE at j;split at j;·cases j
 ·rename_i q;simp only[dS,bC,not_or]at q;exact⟨n-1,by omega⟩
theorem sM {f:Int}{M:St}{e:Edge}{l:Int}{n:Nat}(q:dH f M)(h:At f M e l n):Flat (jF f e):=by
 obtain⟨s,t,_⟩:=h.tag q;obtain⟨a,b,_⟩:=iD s t;unfold jF Flat;split
 ·intro x j;simp at j;rcases j with rfl|rfl;·exact⟨a,b⟩
  ·decide
 ·intro x j;simp at j
theorem rL {f:Int}{M:St}{e:Edge}{l:Int}{n:Nat}(s:dH f M)(h:At f M e l n)(q:0≤e.to)(A:e.to<2):Flat (jD f e):=by
 obtain⟨t,z,_⟩:=h.tag s;obtain⟨a,b,_⟩:=iD t z;obtain⟨c,d,_⟩:=iD (k:=e.to) q (by omega);unfold jD Flat;split
 ·split;·intro x j;simp at j;subst j;decide
  ·intro x j;simp at j;rcases j with rfl|rfl|rfl;·exact⟨a,b⟩
   ·decide
   ·decide
 ·intro x j;simp at j;subst j;exact⟨c,d⟩
theorem oV (f:Int){r:Rec}(q:0≤r.I)(t:r.I≤r.J)(s:r.J<10):Flat (gD f r):=by
 obtain⟨a,b,_⟩:=iD (k:=r.I) q (by omega);obtain⟨c,d,_⟩:=iD (k:=r.J) (by omega) s;unfold gD Flat;split
 ·intro x j;simp at j;rcases j with rfl|rfl|rfl|rfl;·exact⟨a,b⟩
  ·decide
  ·exact⟨c,d⟩
  ·decide
 ·intro x j;simp at j;rcases j with rfl|rfl;·exact⟨a,b⟩
  ·decide
theorem tp {f:Int}{M:St}(j:dH f M):∀(n:Nat) (e:Edge) (l:Int) (v:List UInt8) (d:Nat),At f M e l n→eA (bA f M n e++v) (d+1)=(bA f M n e).length+eA v (d+1):=by
 intro n;induction n with
 |zero=>intro e l v d h;obtain⟨m,q⟩:=h.pos j;omega
 |succ n t=>
  intro e l v d h;rcases h.cases j with⟨q,s⟩|⟨r,B,_,_,J,_,I,L,z,_,E,A⟩
  ·rw[iP q s,mS (rL j h q s)]
  ·rw[iQ B,eP,mS (sM j h)];unfold ey
   rw[List.cons_append,eA,ah rfl,eP,mS (oV f I J z),eP,t _ _ _ _ E,List.cons_append,eA,ag (by decide),ag (by decide),eP,t _ _ _ _ A,
    List.cons_append,eA,ag (by decide),ah rfl]
   simp only[List.nil_append,di,dm,List.length_nil];omega
theorem Cg {f:Int}{M:St}(j:dH f M){n:Nat}{r:Rec}(B:0≤r.I)(E:r.I≤r.J)(q:r.J<10)(t:At f M r.lo (r.J+1) n)(s:At f M r.hi (r.J+1) n)(v:List UInt8) :
  ∃u,ey f M n r++v=40::u∧(40::u).take (1+eA u 1)=ey f M n r:=by
 refine⟨gD f r++(bA f M n r.lo++32::(bA f M n r.hi++[41]))++v,rfl,?_⟩
 have A:eA (gD f r++(bA f M n r.lo++32::(bA f M n r.hi++[41]))++v) 1=(gD f r++(bA f M n r.lo++32::(bA f M n r.hi++[41]))).length:=by
  rw[eP,mS (oV f B E q),eP,tp j _ _ _ _ _ t,List.cons_append,eA,ag (by decide),ag (by decide),eP,tp j _ _ _ _ _ s,
    List.cons_append,eA,ag (by decide),ah rfl,Cf]
  simp only[di,dm,List.length_nil];omega
 have z:1+(gD f r++(bA f M n r.lo++32::(bA f M n r.hi++[41]))).length=(ey f M n r).length:=by unfold ey;rw[dm];omega
 rw[A,z]
 show(ey f M n r++v).take _=_
 rw[List.take_left]
def dW (M:St):Nat→Edge→List Int
 |0,_=>[]
 |n+1,e=>if e.to<2 then []else e.to::(dW M n (aA (look M.cs e.to)).lo++dW M n (aA (look M.cs e.to)).hi)
theorem uj {f:Int}{M:St}(j:dH f M):∀(n m:Nat) (e:Edge) (l l':Int),At f M e l n→At f M e l' m→bA f M n e=bA f M m e:=by
 intro n;induction n with
 |zero=>intro m e l l' h _;obtain⟨O,N⟩:=h.pos j;omega
 |succ n B=>
  intro m e l l' h z;obtain⟨m,rfl⟩:=z.pos j;rcases h.cases j with⟨s,t⟩|⟨r,q,_,_,_,_,_,_,_,_,J,E⟩
  ·rw[iP s t,iP s t]
  ·rcases z.cases j with⟨s,t⟩|⟨j,A,_,_,_,_,_,_,_,_,L,I⟩
   ·have:=(ck q).1;omega
   ·rw[q]at A;cases A;rw[iQ q,iQ q];unfold ey;rw[B m _ _ _ J L,B m _ _ _ E I]
def gU (f:Int)(M:St)(id:Int):List UInt8:=match look M.cs id with|some r=>ey f M 11 r|none=>[]
theorem zU {f:Int}{M:St}(j:dH f M){n:Nat}{id:Int}{r:Rec}(t:look M.cs id=some r)(s:At f M r.lo (r.J+1) n)(q:At f M r.hi (r.J+1) n)(z:0≤r.J):ey f M n r=gU f M id:=by
 have z:=j.n9;unfold gU;rw[t];unfold ey;dsimp only;rw[uj j n 11 _ _ _ s ⟨s.lead,s.ok,by omega⟩,uj j n 11 _ _ _ q ⟨q.lead,q.ok,by omega⟩]
theorem AP {f:Int}{M:St}(j:dH f M):∀(n:Nat) (e:Edge) (l:Int) (v:List UInt8) (out:List (List UInt8)),At f M e l n→ps (bA f M n e++v) out=ps v (((dW M n e).map (gU f M)).foldl iC out):=by
 intro n;induction n with
 |zero=>intro e l v out h;obtain⟨m,E⟩:=h.pos j;omega
 |succ n I=>
  intro e l v out h;rcases h.cases j with⟨E,s⟩|⟨r,q,_,_,L,_,J,T,B,_,z,t⟩
  ·rw[iP E s,pg (rL j h E s)];unfold dW;rw[ah s];rfl
  ·have N:aA (look M.cs e.to)=r:=(by rw[q];rfl);rw[iQ q,eP,pg (sM j h)];obtain⟨u,A,O⟩:=Cg j J L B z t v
   have S:u=gD f r++(bA f M n r.lo++32::(bA f M n r.hi++[41]))++v:=by
    have:ey f M n r++v=40::(gD f r++(bA f M n r.lo++32::(bA f M n r.hi++[41]))++v):=rfl;rw[this]at A;exact(List.cons.inj A).2.symm
   rw[A];show ps u _=_;rw[ah rfl,O,S,eP,pg (oV f J L B),eP,I _ _ _ _ z];show ps (bA f M n r.hi++[41]++v) _=_;rw[eP,I _ _ _ _ t];show ps v _=ps v _;rw[zU j q z t (by omega)];rw[show dW M (n+1) e=if e.to<2 then []else e.to::(dW M n (aA (look M.cs e.to)).lo++dW M n (aA (look M.cs e.to)).hi)from rfl,ag (show¬e.to<2 by have:=(ck q).1;omega),N];simp only[List.map_cons,fL,List.foldl_cons,List.foldl_append];rfl
theorem yv {F:Nat→Prop}{w:World}{sb:Nat}{M:St}(h:ak F w sb M):((cI M.cs).length:Int)=M.len:=by
 have S:=h.b3;obtain⟨⟨ad,ib,ts,Z,ab,al,am,S,av,z,_⟩,_⟩:=h;have X:=S.ok.c8
 have B:(ts.filterMap (fun o=>o.map Prod.snd)).length=occ ts:=by
  rw[List.length_filterMap_eq_countP];unfold occ;refine List.countP_congr (fun o _=>?_);cases o<;>simp
 have N:∀x,x∈ts.filterMap (fun o=>o.map Prod.snd)↔x∈cI M.cs:=by
  intro x;rw[mh,List.mem_filterMap];constructor
  ·rintro⟨o,W,j⟩;cases o with
   |none=>simp at j
   |some p=>
    obtain⟨r,id⟩:=p;simp at j;subst j;obtain⟨i,hi⟩:=List.getElem?_of_mem W;rw[(z r id).1 ⟨i,hi⟩];simp
  ·intro j;cases B:look M.cs x with
   |none=>exact absurd B j
   |some r=>
    obtain⟨i,hi⟩:=(z r x).2 B;exact⟨_,bB hi,rfl⟩
 have U:(ts.filterMap (fun o=>o.map Prod.snd)).Nodup:=by
  unfold List.Nodup;rw[List.pairwise_filterMap,List.pairwise_iff_getElem];intro i A hi T B x j y s e;subst e;cases E:ts[i]with
  |none=>rw[E]at j;simp at j
  |some p=>
   cases I:ts[A]with
   |none=>rw[I]at s;simp at s
   |some Y=>
    rw[E]at j;rw[I]at s;obtain⟨r,id⟩:=p;obtain⟨O,q⟩:=Y;simp at j s;subst j;subst s;have J:ao.at ts i r q:=(by unfold ao.at;rw[ar hi,E]);have a2:ao.at ts A O q:=(by unfold ao.at;rw[ar T,I]);have L:=(z r q).1 ⟨i,J⟩;have t:=(z O q).1 ⟨A,a2⟩;rw[L]at t;cases t;have:=X i A r q q J a2;omega
 have L:=sq U (fun x j=>(N x).1 j);have t:=sq (mQ (oF M.cs 2)) (fun x j=>(N x).2 j);have j:(cI M.cs).length≤(ts.filterMap (fun o=>o.map Prod.snd)).length:=t;omega
theorem Av (M:St)(roots:List Int):(aU M.cs roots).length+(eo M roots).length=(cI M.cs).length:=by
 have q:aU M.cs roots=(cI M.cs).filter (fun x=>decide (x∈aU M.cs roots)):=by
  refine po (lG _ _) (List.Pairwise.filter _ (oF M.cs 2)) (fun x=>?_);rw[List.mem_filter,mh];simp only[bC];exact⟨fun j=>⟨(gR.1 j).some,j⟩,fun j=>j.2⟩
 have s:(aU M.cs roots).length=(cI M.cs).countP (fun x=>decide (x∈aU M.cs roots)):=by
  rw[List.countP_eq_length_filter,←q]
 have t:(eo M roots).length=(cI M.cs).countP (fun x=>!decide (x∈aU M.cs roots)):=by
  rw[List.countP_eq_length_filter];rfl
 rw[s,t,List.length_eq_countP_add_countP (p:=fun x=>decide (x∈aU M.cs roots))];congr 1
 refine List.countP_congr (fun x _=>?_);simp
theorem bM {a b:UInt8}{u v:List UInt8}(h:a::u=b::v):a=b∧u=v:=List.cons.inj h
theorem mc {f:Int}{M:St}{e j:Edge}{l l':Int}{n A:Nat}(q:dH f M)(h:At f M e l n)(I:At f M j l' A)(s:e.to=j.to)(J:f=5→e.to≠0→dB e.tag=dB j.tag):e=j:=by
 obtain⟨t,z,a2,_⟩:=h.tag q;obtain⟨A,B,E,_⟩:=I.tag q
 have:e.tag=j.tag:=by
  by_cases q:f=5∧e.to≠0;·exact iY t z A B (J q.1 q.2)
  ·have t:f≠5∨e.to=0:=by
    by_cases z:f=5;·right;exact Classical.byContradiction fun A=>q ⟨z,A⟩
    ·exact .inl z
   rw[a2 t,E (by rw[←s];exact t)]
 cases e;cases j;simp only at s this;rw[s,this]
theorem sU {f:Int}{r j:Rec}(q:r.al=f)(s:j.al=f)(t:r.I=j.I)(z:r.J=j.J)(A:r.lo=j.lo)(B:r.hi=j.hi):r=j:=by
 cases r;cases j;simp only at q s t z A B;rw[q,s,t,z,A,B]
theorem tZ {f:Int}{M:St}(z:dH f M):∀(n A:Nat) (e J:Edge) (l l':Int) (x E:List UInt8),At f M e l n→At f M J l' A→x.head?≠some 64→E.head?≠some 64→bA f M n e++x=bA f M A J++E→e=J∧x=E:=by
 intro n;induction n with
 |zero=>intro A e J l l' x E h;obtain⟨m,a5⟩:=h.pos z;omega
 |succ n am=>
  intro A e J l l' x E h L ad al j;obtain⟨A,rfl⟩:=L.pos z;obtain⟨a3,a4,a2,_⟩:=h.tag z;obtain⟨a5,a6,b2,_⟩:=L.tag z;have b2:=iD a3 a4;have a3:=iD a5 a6;have ab:∀{k:Nat} {r:Rec} {y:List UInt8},∃u,ey f M k r++y=40::u:=fun {k r y}=>⟨_,rfl⟩;rcases h.cases z with⟨W,a3⟩|⟨r,Y,bg,_,a4,_,av,a0,a7,be,bq,bn⟩
  ·rw[iP W a3]at j;rcases L.cases z with⟨O,X⟩|⟨B,T,_⟩
   ·rw[iP O X]at j;unfold jD at j;by_cases s:f=5
    ·rw[ah s,ah s]at j;by_cases I:e.to=0
     ·by_cases U:J.to=0
      ·rw[ah I,ah U]at j;obtain⟨_,q⟩:=bM j;exact⟨mc z h L (by omega) (fun _ a3=>absurd I a3),q⟩
      ·rw[ah I,ag U]at j;obtain⟨_,q⟩:=bM j;exact absurd (by rw[show x=64::(49::E)from q];rfl) ad
     ·by_cases U:J.to=0
      ·rw[ag I,ah U]at j;obtain⟨_,q⟩:=bM j;exact absurd (by rw[show E=64::(49::x)from q.symm];rfl) al
      ·rw[ag I,ag U]at j;obtain⟨t,q⟩:=bM j;obtain⟨_,q⟩:=bM q;obtain⟨_,q⟩:=bM q;exact⟨mc z h L (by omega) (fun _ _=>t),q⟩
    ·rw[ag s,ag s]at j;obtain⟨t,q⟩:=bM j;exact⟨mc z h L (iY W (by omega) O (by omega) t) (fun S=>absurd S s),q⟩
   ·rw[iQ T,eP]at j;obtain⟨u,Z⟩:=ab (k:=A) (r:=B) (y:=E);rw[Z]at j;unfold jD jF at j;by_cases s:f=5
    ·rw[ah s,ah s]at j;by_cases I:e.to=0
     ·rw[ah I]at j;obtain⟨_,q⟩:=bM j;exact absurd (by rw[show x=64::(40::u)from q];rfl) ad
     ·rw[ag I]at j;obtain⟨_,q⟩:=bM j;obtain⟨_,q⟩:=bM q;obtain⟨q,_⟩:=bM q;exact absurd q (by decide)
    ·rw[ag s,ag s]at j;obtain⟨t,_⟩:=bM j;exact absurd t (iD W (by omega)).1
  ·have U:=(ck Y).1;rw[iQ Y,eP]at j;rcases L.cases z with⟨O,X⟩|⟨B,T,bi,_,U,_,aw,a1,a8,bf,br,bp⟩
   ·rw[iP O X]at j;obtain⟨u,Z⟩:=ab (k:=n) (r:=r) (y:=x);rw[Z]at j;unfold jD jF at j;by_cases s:f=5
    ·rw[ah s,ah s]at j;by_cases I:J.to=0
     ·rw[ah I]at j;obtain⟨_,q⟩:=bM j;exact absurd (by rw[show E=64::(40::u)from q.symm];rfl) al
     ·rw[ag I]at j;obtain⟨_,q⟩:=bM j;obtain⟨_,q⟩:=bM q;obtain⟨q,_⟩:=bM q;exact absurd q (by decide)
    ·rw[ag s,ag s]at j;obtain⟨t,_⟩:=bM j;exact absurd t.symm (iD O (by omega)).1
   ·have I:=(ck T).1;rw[iQ T,eP]at j
    have bt:(f=5→dB e.tag=dB J.tag)∧ey f M n r++x=ey f M A B++E:=by
     unfold jF at j;by_cases s:f=5
     ·rw[ah s,ah s]at j;obtain⟨t,q⟩:=bM j;obtain⟨_,q⟩:=bM q;exact⟨fun _=>t,q⟩
     ·rw[ag s,ag s]at j;exact⟨fun S=>absurd S s,j⟩
    obtain⟨bw,j⟩:=bt;unfold ey at j;simp only[List.cons_append,eP,List.nil_append]at j;obtain⟨_,j⟩:=bM j
    have bs:r.I=B.I∧r.J=B.J∧bA f M n r.lo++32::(bA f M n r.hi++41::x)=bA f M A B.lo++32::(bA f M A B.hi++41::E):=by
     unfold gD at j;by_cases N:f=3∨f=4
     ·rw[ah N,ah N]at j;obtain⟨t,q⟩:=bM j;obtain⟨_,q⟩:=bM q;obtain⟨b1,q⟩:=bM q;obtain⟨_,q⟩:=bM q;exact⟨iY av a0 aw a1 t,iY (by omega) a7 (by omega) a8 b1,q⟩
     ·rw[ag N,ag N]at j;obtain⟨t,q⟩:=bM j;obtain⟨_,q⟩:=bM q;have bv:=iY av a0 aw a1 t;have s:r.I=r.J:=(by rcases be with c|c;exact c;exact absurd c N);have s:B.I=B.J:=(by rcases bf with c|c;exact c;exact absurd c N);exact⟨bv,by omega,q⟩
    obtain⟨bD,b0,j⟩:=bs;obtain⟨a',j⟩:=am A r.lo B.lo _ _ _ _ bq br (by simp) (by simp) j;obtain⟨_,j⟩:=bM j;obtain⟨bb,j⟩:=am A r.hi B.hi _ _ _ _ bn bp (by simp) (by simp) j;obtain⟨_,bx⟩:=bM j;have bd:=sU bg bi bD b0 a' bb;subst bd;exact⟨mc z h L (z.wf.b3 _ _ _ Y T) (fun S _=>bw S),bx⟩
theorem Dy {f:Int}{M:St}(z:dH f M){i E:Int}{r s:Rec}(hi:look M.cs i=some r)(B:look M.cs E=some s)(J:r.al=f)(L:s.al=f)(a8:0≤r.I)(a':0≤s.I)(h:gU f M i=gU f M E):i=E:=by
 have E:=z.n9
 have mk:∀{id:Int} {j:Rec},look M.cs id=some j→j.al=f→0≤j.I→0≤j.I∧j.I<10∧j.I≤j.J∧j.J<10∧(j.I=j.J∨f=3∨f=4)∧At f M j.lo (j.J+1) 11∧At f M j.hi (j.J+1) 11:=fun {id j} E a4 ab=>by
  have g:=z.wf.b6 E;have N:=z.b0 _ _ E;have ad:=g.tb;have E:=g.bn;subst a4;refine⟨ab,by omega,ad,by omega,?_,⟨g.lo,N.1,by omega⟩,⟨g.hi,N.2,by omega⟩⟩;rcases g.chain with A|A;·exact .inl A
  ·unfold fN at A;simp only[dS,beq_iff_eq]at A;exact .inr A
 obtain⟨O,T,A,W,al,a0,av⟩:=mk hi J a8;obtain⟨S,U,A,X,am,a1,aw⟩:=mk B L a';unfold gU at h;rw[hi,B]at h;dsimp only at h;unfold ey at h;obtain⟨_,q⟩:=bM h
 have a3:r.I=s.I∧r.J=s.J∧bA f M 11 r.lo++32::(bA f M 11 r.hi++[41])=bA f M 11 s.lo++32::(bA f M 11 s.hi++[41]):=by
  unfold gD at q;by_cases t:f=3∨f=4
  ·rw[ah t,ah t]at q;obtain⟨I,j⟩:=bM q;obtain⟨_,j⟩:=bM j;obtain⟨bb,j⟩:=bM j;obtain⟨_,j⟩:=bM j;exact⟨iY O T S U I,iY (by omega) W (by omega) X bb,j⟩
  ·rw[ag t,ag t]at q;obtain⟨I,j⟩:=bM q;obtain⟨_,j⟩:=bM j;have a5:=iY O T S U I;have A:r.I=r.J:=(by rcases al with c|c;exact c;exact absurd c t);have A:s.I=s.J:=(by rcases am with c|c;exact c;exact absurd c t);exact⟨a5,by omega,j⟩
 obtain⟨a6,a7,q⟩:=a3;obtain⟨Y,q⟩:=tZ z 11 11 r.lo s.lo _ _ _ _ a0 a1 (by simp) (by simp) q;obtain⟨_,q⟩:=bM q;obtain⟨j,_⟩:=tZ z 11 11 r.hi s.hi _ _ _ _ av aw (by decide) (by decide) q;have Z:=sU J L a6 a7 Y j;subst Z;exact z.wf.b3 _ _ _ hi B
theorem oG {f:Int}{M:St}(L:dH f M):∀(n:Nat) (e:Edge) (l:Int),At f M e l n→(∀x,x∈dW M n e↔Reaches M.cs [e.to] x)∧∀x∈dW M n e,∃r,look M.cs x=some r∧r.al=f∧0≤r.I:=by
 intro n;induction n with
 |zero=>intro e l h;obtain⟨m,ad⟩:=h.pos L;omega
 |succ n S=>
  intro e l h;rcases h.cases L with⟨ad,L⟩|⟨r,t,T,_,_,_,ab,_,_,_,X,W⟩
  ·have I:dW M (n+1) e=[]:=by
    show(if e.to<2 then []else _)=_;rw[ah L]
   rw[I];refine⟨fun x=>⟨fun j=>by simp at j,fun j=>?_⟩,fun x j=>by simp at j⟩
   exact(j (fun _=>False) (fun y s z=>by
    rw[cF]at s;subst s;cases L:look M.cs e.to with
    |none=>exact z L
    |some J=>have:=(ck L).1;omega) (fun _ _ q _=>q.elim)).elim
  ·have U:aA (look M.cs e.to)=r:=by rw[t];rfl
   have I:dW M (n+1) e=e.to::(dW M n r.lo++dW M n r.hi):=by
    show(if e.to<2 then []else _)=_;rw[ag (show¬e.to<2 by have:=(ck t).1;omega),U]
   obtain⟨A,Y⟩:=S _ _ X;obtain⟨B,Z⟩:=S _ _ W;have O:Reaches M.cs [e.to] e.to:=Reaches.root (by simp) (by rw[t];simp);have N:=Reaches.closed M.cs [e.to] e.to r O t;rw[I];refine⟨fun x=>⟨fun j=>?_,fun j=>?_⟩,fun x j=>?_⟩
   ·rcases List.mem_cons.1 j with rfl|j;·exact O
    ·rcases List.mem_append.1 j with j|j;·exact((A x).1 j).below (fun y s z=>by rw[cF]at s;subst s;exact N.1 z)
     ·exact((B x).1 j).below (fun y s z=>by rw[cF]at s;subst s;exact N.2 z)
   ·refine j (fun y=>y∈e.to::(dW M n r.lo++dW M n r.hi)) (fun y s _=>by rw[cF]at s;subst s;exact List.mem_cons_self) ?_;intro id J hid E;rcases List.mem_cons.1 hid with rfl|hid
    ·rw[t]at E;cases E;exact⟨fun q=>eE _ (gz _ ((A _).2 (Reaches.root (by simp) q))),fun q=>eE _ (List.mem_append_right _ ((B _).2 (Reaches.root (by simp) q)))⟩
    ·rcases List.mem_append.1 hid with hid|hid
     ·have s:=Reaches.closed M.cs [r.lo.to] id J ((A id).1 hid) E;exact⟨fun q=>eE _ (gz _ ((A _).2 (s.1 q))),fun q=>eE _ (gz _ ((A _).2 (s.2 q)))⟩
     ·have s:=Reaches.closed M.cs [r.hi.to] id J ((B id).1 hid) E;exact⟨fun q=>eE _ (List.mem_append_right _ ((B _).2 (s.1 q))),fun q=>eE _ (List.mem_append_right _ ((B _).2 (s.2 q)))⟩
   ·rcases List.mem_cons.1 j with rfl|j;·exact⟨r,t,T,ab⟩
    ·rcases List.mem_append.1 j with j|j;·exact Y x j
     ·exact Z x j
theorem xT (xs:List (List UInt8)):∀out:List (List UInt8),out.Nodup→(xs.foldl iC out).Nodup∧∀y,y∈xs.foldl iC out↔y∈out∨y∈xs:=by
 induction xs with
 |nil=>intro out h;exact⟨h,fun y=>by simp⟩
 |cons x xs A=>
  intro out h
  have t:(iC out x).Nodup∧∀y,y∈iC out x↔y∈out∨y=x:=by
   unfold iC;split
   ·rename_i q;exact⟨h,fun y=>⟨.inl,fun j=>by rcases j with j|rfl;exact j;exact q⟩⟩
   ·rename_i q;refine⟨List.nodup_append.2 ⟨h,by simp,fun a z b s e=>?_⟩,fun y=>by simp⟩;rw[cF]at s;subst s;subst e;exact q z
  obtain⟨q,s⟩:=A _ t.1;refine⟨q,fun y=>?_⟩;rw[List.foldl_cons,s,t.2,List.mem_cons];exact⟨fun j=>by rcases j with(j|j)|j;exact .inl j;exact .inr (.inl j);exact .inr (.inr j),fun j=>by rcases j with j|j|j;exact .inl (.inl j);exact .inl (.inr j);exact .inr j⟩
theorem sr:∀{a b:List (List UInt8)},a.Nodup→(∀x,x∈a→x∈b)→a.length≤b.length:=by
 intro a;induction a with
 |nil=>intro b _ _;exact Nat.zero_le _
 |cons x a z=>
  intro b t q;have s:x∈b:=q x (List.mem_cons_self);have j:=List.nodup_cons.1 t
  have t:=z (b:=b.erase x) j.2 (fun y t=>by
   have z:y≠x:=fun e=>j.1 (e ▸ t)
   exact(List.mem_erase_of_ne z).2 (q y (eE _ t)))
  have j:=List.length_erase_of_mem s;have j:0<b.length:=List.length_pos_of_mem s;rw[dm];omega
def ay (f:Int)(M:St)(l:Int)(lo hi:Edge):(Edge×Int) ⊕ Rec:=
 if f=5 then bO M l lo hi else if f=3 then az M 3 l lo hi (bk M l lo hi)else if f=4 then az M 4 l lo hi (bm M l lo hi)
 else if f=1 then az M 1 l lo hi (cW M l lo hi)else az M 2 l lo hi (dc M l lo hi)
theorem gE (M:St)(l:Int)(lo hi:Edge):ay 1 M l lo hi=az M 1 l lo hi (cW M l lo hi):=rfl
theorem gF (M:St)(l:Int)(lo hi:Edge):ay 2 M l lo hi=az M 2 l lo hi (dc M l lo hi):=rfl
theorem ik (M:St)(l:Int)(lo hi:Edge):ay 3 M l lo hi=az M 3 l lo hi (bk M l lo hi):=rfl
theorem il (M:St)(l:Int)(lo hi:Edge):ay 4 M l lo hi=az M 4 l lo hi (bm M l lo hi):=rfl
theorem gS (M:St)(l:Int)(lo hi:Edge):ay 5 M l lo hi=bO M l lo hi:=rfl
structure dJ (f:Int)(M:St)(l:Int)(lo hi e:Edge):Prop where
 up:ay f M l lo hi=.inl (e,0)∨∃r,ay f M l lo hi=.inr r∧look M.cs e.to=some r∧e.tag=eh f r
 eg:aj M f e l=.inl (lo,hi,0)∨∃q,aj M f e l=.inr q∧look M.cs lo.to=some q∧lo.tag=0∧hi=(if f=4 then lo else q.hi)
 leads:M.leads f e l=true
 lo:M.leads f lo (l+1)=true
 hi:M.leads f hi (l+1)=true
theorem nc.f' {f:Int}{M:St}{l:Int}{lo hi e:Edge}(h:nc f M l lo hi e)(j:f=3∨f=4∨f=5):dJ f M l lo hi e:=by
 refine⟨?_,h.eg,(dp.1 h.right).1,(dp.1 h.lo).1,(dp.1 h.hi).1⟩;have q:=h.up;rcases j with rfl|rfl|rfl<;>exact q
theorem dJ.da {f:Int}{M:St}(J:M.wf){l:Int}{lo hi e q:Edge}(h:dJ f M l lo hi e)(t:dJ f M l lo hi q):e=q:=by
 rcases h.up with s|⟨r,s,E,z⟩
 ·rcases t.up with j|⟨L,j,_,_⟩;·rw[s]at j;cases j;rfl
  ·rw[s]at j;cases j
 ·rcases t.up with j|⟨L,j,I,A⟩;·rw[s]at j;cases j
  ·rw[s]at j;cases j;have B:e.to=q.to:=J.b3 r e.to q.to E I;cases e;cases q;simp only at B z A;rw[B,z,A]
theorem dJ.inj {f:Int}{M:St}(S:M.wf){l:Int}{lo hi q B e:Edge}(h:dJ f M l lo hi e)(z:dJ f M l q B e):lo=q∧hi=B:=by
 rcases h.eg with s|⟨T,s,L,A,N⟩
 ·rcases z.eg with j|⟨U,j,_⟩;·rw[s]at j;cases j;exact⟨rfl,rfl⟩
  ·rw[s]at j;cases j
 ·rcases z.eg with j|⟨U,j,I,t,J⟩;·rw[s]at j;cases j
  ·rw[s]at j;cases j;have E:lo.to=q.to:=S.b3 T lo.to q.to L I
   have O:lo=q:=by
    cases lo;cases q;simp only at E A t;rw[E,A,t]
   subst O;exact⟨rfl,by rw[N,J]⟩
theorem xD {f:Int}{b b':Bool}{l:Int}(h:cY f b l=cY f b' l):b=b':=by
 have key:∀b:Bool,(cY f b l).to=if b then 1 else 0:=by
  intro b;unfold cY;cases b;·rfl
  ·by_cases j:f=5;·rw[ah rfl,ah j];rfl
   ·rw[ah rfl,ag j];rfl
 have:=congrArg Edge.to h;rw[key,key]at this;cases b<;>cases b'<;>first|rfl|(exfalso;revert this;decide)
theorem xE {M:St}(h:M.wf){f:Int}{b:Bool}(B:1≤f∧f≤5):M.leads f (cY f b M.n) M.n=true:=by
 have t:=h.n0;have A:=h.bw
 have z:(cY f b M.n).to<2:=by
  unfold cY;split
  ·split;·show(1:Int)<2;omega
   ·show(1:Int)<2;omega
  ·show(0:Int)<2;omega
 refine a9.2 ⟨bK.2 ⟨by omega,by omega,t,A,t,by omega,fun j=>?_,fun q s=>?_⟩,.inl z⟩
 ·unfold cY at j ⊢;split at j
  ·split at j
   ·rename_i q;rcases j with j|j;·exact absurd q j
    ·have t:(1:Int)=0:=j;omega
   ·rw[ah (by assumption),ag (by assumption)]
  ·rw[ag (by assumption)]
 ·unfold cY at s ⊢;split at s
  ·rw[ah (by assumption),ah q];exact⟨by show M.n≤M.n;omega,by show M.n≤M.n;omega⟩
  ·exact absurd rfl s
def aJ (f:Int)(M:St):Nat→List Bool→Int→Edge→Prop
 |0,ts,l,e=>∃b,ts=[b]∧e=cY f b l
 |k+1,ts,l,e=>ts.length=2 ^ (k+1)∧∃lo hi,aJ f M k (ts.take (2 ^ k)) (l+1) lo∧aJ f M k (ts.drop (2 ^ k)) (l+1) hi∧dJ f M l lo hi e
theorem aJ.length {f:Int}{M:St}:∀{k:Nat} {ts:List Bool} {l:Int} {e:Edge},aJ f M k ts l e→ts.length=2 ^ k:=by
 intro k ts l e h;cases k with
 |zero=>obtain⟨b,rfl,_⟩:=h;rfl
 |succ k=>exact h.1
theorem aJ.inj {f:Int}{M:St}(L:M.wf):∀(k:Nat) (ts j:List Bool) (l:Int) (e:Edge),aJ f M k ts l e→aJ f M k j l e→ts=j:=by
 intro k;induction k with
 |zero=>
  intro ts j l e h q;obtain⟨b,rfl,s⟩:=h;obtain⟨b',rfl,J⟩:=q;rw[xD (f:=f) (l:=l) (b:=b) (b':=b') (by rw[←s,←J])]
 |succ k t=>
  intro ts j l e h q;obtain⟨_,lo,J,E,s,I⟩:=h;obtain⟨_,N,J,z,A,B⟩:=q;obtain⟨rfl,rfl⟩:=I.inj L B;rw[←List.take_append_drop (2 ^ k) ts,←List.take_append_drop (2 ^ k) j,t _ _ _ _ E z,t _ _ _ _ s A]
theorem aJ.da {f:Int}{M:St}(J:M.wf):∀(k:Nat) (ts:List Bool) (l:Int) (e j:Edge),aJ f M k ts l e→aJ f M k ts l j→e=j:=by
 intro k;induction k with
 |zero=>
  intro ts l e j h q;obtain⟨b,rfl,s⟩:=h;obtain⟨b',t,B⟩:=q;cases t;rw[s,B]
 |succ k z=>
  intro ts l e j h q;obtain⟨_,lo,j,I,s,t⟩:=h;obtain⟨_,N,L,j,B,E⟩:=q;have A:=z _ _ _ _ I j;have a2:=z _ _ _ _ s B;subst A;subst a2;exact t.da J E
theorem aJ.leads {f:Int}{M:St}(s:M.wf)(j:1≤f∧f≤5){k:Nat}{ts:List Bool}{l:Int}{e:Edge}(h:aJ f M k ts l e)(q:l+k=M.n):M.leads f e l=true:=by
 cases k with
 |zero=>
  obtain⟨b,_,rfl⟩:=h;have:l=M.n:=by simpa using q
  rw[this];exact xE s j
 |succ k=>obtain⟨_,_,_,_,_,j⟩:=h;exact j.leads
theorem aJ.I {f:Int}{M:St}(t:M.wf)(j:1≤f∧f≤5){k:Nat}{ts:List Bool}{l:Int}{e:Edge}(h:aJ f M k ts l e)(q:l+k=M.n){r:Rec}(s:look M.cs e.to=some r):l≤r.I:=
 (dY (h.leads t j q) s).2.1
theorem zW:∀(a b:List Bool),bE (a++b)=(bE a&&bE b):=by
 intro a;induction a with
 |nil=>intro b;rfl
 |cons x a j=>
  intro b;show(!x&&bE (a++b))=((!x&&bE a)&&bE b);rw[j,Bool.and_assoc]
theorem mC (p:Nat)(ts:List Bool):bE ts=(bE (ts.take p)&&bE (ts.drop p)):=by
 rw[←zW,List.take_append_drop]
theorem kG {j q:List Bool}:bN j q=false↔j≠q:=by
 rw[←Bool.not_eq_true,gi]
def jb:Nat→List Bool→Bool
 |0,_=>false
 |k+1,ts=>bN (ts.take (2 ^ k)) (ts.drop (2 ^ k))
def cT:Nat→List Bool→Nat×List Bool
 |0,ts=>(0,ts)
 |k+1,ts=>if bN (ts.take (2 ^ k)) (ts.drop (2 ^ k))then cT k (ts.take (2 ^ k))else(k+1,ts)
def gJ:Nat→List Bool→Nat×List Bool
 |0,ts=>(0,ts)
 |k+1,ts=>if bE (ts.drop (2 ^ k))&&!jb k (ts.take (2 ^ k))then gJ k (ts.take (2 ^ k))else(k+1,ts)
theorem pI:∀(k:Nat) (ts:List Bool),(cT k ts).1≤k:=by
 intro k;induction k with
 |zero=>intro ts;exact aE 0
 |succ k j=>
  intro ts;unfold cT;split;·exact Nat.le_succ_of_le (j _)
  ·exact aE _
theorem pJ:∀(k:Nat) (ts:List Bool),(gJ k ts).1≤k:=by
 intro k;induction k with
 |zero=>intro ts;exact aE 0
 |succ k j=>
  intro ts;unfold gJ;split;·exact Nat.le_succ_of_le (j _)
  ·exact aE _
def jL:Nat→Nat→List Bool→Int→ByteArray
 |0,_,_,_=>⟨#[48]⟩
 |n+1,k,ts,l=>
  if bE ts then⟨#[48]⟩else
  match gJ (cT k ts).1 (cT k ts).2 with
  |(0,_)=>bQ (l+(k-(cT k ts).1:Nat))++⟨#[64]⟩++⟨#[49]⟩
  |(c+1,j)=>bQ (l+(k-(cT k ts).1:Nat))++⟨#[64]⟩++⟨#[40]⟩++bQ (l+(k-(c+1):Nat))++⟨#[32]⟩++jL n c (j.take (2 ^ c)) (l+(k-c:Nat))++⟨#[32]⟩++jL n c (j.drop (2 ^ c)) (l+(k-c:Nat))++⟨#[41]⟩
def dM:Nat→List Bool→List Bool→Nat×List Bool×List Bool
 |0,lo,hi=>(0,lo,hi)
 |k+1,lo,hi=>if bN lo hi&&!bE (lo.drop (2 ^ k))then dM k (lo.take (2 ^ k)) (lo.drop (2 ^ k))else(k+1,lo,hi)
theorem qA:∀(k:Nat) (lo hi:List Bool),(dM k lo hi).1≤k:=by
 intro k;induction k with
 |zero=>intro lo hi;exact aE 0
 |succ k j=>
  intro lo hi;unfold dM;split;·exact Nat.le_succ_of_le (j _ _)
  ·exact aE _
def iN:Nat→Nat→List Bool→Int→ByteArray
 |0,_,_,_=>⟨#[48]⟩
 |_+1,0,ts,_=>if bE ts then⟨#[48]⟩else⟨#[49]⟩
 |n+1,k+1,ts,l=>
  if bE ts then⟨#[48]⟩else if bE (ts.drop (2 ^ k))then iN n k (ts.take (2 ^ k)) (l+1)
  else⟨#[40]⟩++bQ l++⟨#[58]⟩++bQ (l+(k-(dM k (ts.take (2 ^ k)) (ts.drop (2 ^ k))).1:Nat))++⟨#[32]⟩++iN n (dM k (ts.take (2 ^ k)) (ts.drop (2 ^ k))).1 (dM k (ts.take (2 ^ k)) (ts.drop (2 ^ k))).2.1 (l+(k-(dM k (ts.take (2 ^ k)) (ts.drop (2 ^ k))).1:Nat)+1)++⟨#[32]⟩++iN n (dM k (ts.take (2 ^ k)) (ts.drop (2 ^ k))).1 (dM k (ts.take (2 ^ k)) (ts.drop (2 ^ k))).2.2 (l+(k-(dM k (ts.take (2 ^ k)) (ts.drop (2 ^ k))).1:Nat)+1)++⟨#[41]⟩
def xB (b:Bool):ByteArray:=if b then⟨#[49]⟩else⟨#[48]⟩
def iL:Nat→List Bool→Int→ByteArray
 |0,ts,_=>xB (ts.getD 0 false)
 |k+1,ts,l=>if bN (ts.take (2 ^ k)) (ts.drop (2 ^ k))then iL k (ts.take (2 ^ k)) (l+1)else⟨#[40]⟩++bQ l++⟨#[32]⟩++iL k (ts.take (2 ^ k)) (l+1)++⟨#[32]⟩++iL k (ts.drop (2 ^ k)) (l+1)++⟨#[41]⟩
def xG (b:Bool):ByteArray:=if b then⟨#[49]⟩else⟨#[48]⟩
def iO:Nat→List Bool→Int→ByteArray
 |0,ts,_=>xG (ts.getD 0 false)
 |k+1,ts,l=>if bE (ts.drop (2 ^ k))then iO k (ts.take (2 ^ k)) (l+1)else⟨#[40]⟩++bQ l++⟨#[32]⟩++iO k (ts.take (2 ^ k)) (l+1)++⟨#[32]⟩++iO k (ts.drop (2 ^ k)) (l+1)++⟨#[41]⟩
def xC (b:Bool):ByteArray:=if b then⟨#[49]⟩else⟨#[48]⟩
def dt:Nat→List Bool→List Bool→Nat×List Bool×List Bool
 |0,lo,hi=>(0,lo,hi)
 |k+1,lo,hi=>if !bN (lo.take (2 ^ k)) (lo.drop (2 ^ k))&&bN (hi.take (2 ^ k)) (hi.drop (2 ^ k))&&bN (hi.take (2 ^ k)) (lo.drop (2 ^ k))then dt k (lo.take (2 ^ k)) (lo.drop (2 ^ k))else(k+1,lo,hi)
theorem l0:∀(k:Nat) (lo hi:List Bool),(dt k lo hi).1≤k:=by
 intro k;induction k with
 |zero=>intro lo hi;exact aE 0
 |succ k j=>
  intro lo hi;unfold dt;split;·exact Nat.le_succ_of_le (j _ _)
  ·exact aE _
def iM:Nat→Nat→List Bool→Int→ByteArray
 |0,_,_,_=>⟨#[48]⟩
 |_+1,0,ts,_=>xC (ts.getD 0 false)
 |n+1,k+1,ts,l=>
  if bN (ts.take (2 ^ k)) (ts.drop (2 ^ k))then iM n k (ts.take (2 ^ k)) (l+1)
  else⟨#[40]⟩++bQ l++⟨#[58]⟩++bQ (l+(k-(dt k (ts.take (2 ^ k)) (ts.drop (2 ^ k))).1:Nat))++⟨#[32]⟩++iM n (dt k (ts.take (2 ^ k)) (ts.drop (2 ^ k))).1 (dt k (ts.take (2 ^ k)) (ts.drop (2 ^ k))).2.1 (l+(k-(dt k (ts.take (2 ^ k)) (ts.drop (2 ^ k))).1:Nat)+1)++⟨#[32]⟩++iM n (dt k (ts.take (2 ^ k)) (ts.drop (2 ^ k))).1 (dt k (ts.take (2 ^ k)) (ts.drop (2 ^ k))).2.2 (l+(k-(dt k (ts.take (2 ^ k)) (ts.drop (2 ^ k))).1:Nat)+1)++⟨#[41]⟩
theorem sk {M M':St}(j:aD M M'){f l:Int}{lo hi:Edge}(q:M.leads f lo (l+1)=true)(s:M.leads f hi (l+1)=true)(z:1≤f∧f≤5):ay f M' l lo hi=ay f M l lo hi:=by
 have a:=j.leads q;have b:=j.leads s;have c:=j.c7 q;have t:f=1∨f=2∨f=3∨f=4∨f=5:=by omega
 rcases t with rfl|rfl|rfl|rfl|rfl
 ·rw[gE,gE];unfold az cW;rw[j.n,a,b,q,s]
 ·rw[gF,gF];unfold az dc;rw[j.n,a,b,q,s]
 ·rw[ik,ik];unfold az bk;rw[j.n,a,b,q,s,c]
 ·rw[il,il];unfold az bm;rw[j.n,a,b,q,s,c]
 ·rw[gS,gS];unfold bO;rw[j.n,a,b,q,s]
theorem dJ.ext {f:Int}{M M':St}{l:Int}{lo hi e:Edge}(h:dJ f M l lo hi e)(j:aD M M')(z:1≤f∧f≤5):dJ f M' l lo hi e:=by
 refine⟨?_,?_,j.leads h.leads,j.leads h.lo,j.leads h.hi⟩
 ·rw[sk j h.lo h.hi z];rcases h.up with u|⟨r,q,s,t⟩;·exact .inl u
  ·exact .inr ⟨r,q,j.sub _ _ s,t⟩
 ·rw[uo j h.leads];rcases h.eg with u|⟨r,q,s,t⟩;·exact .inl u
  ·exact .inr ⟨r,q,j.sub _ _ s,t⟩
theorem aJ.ext {f:Int}{M M':St}(z:aD M M')(A:1≤f∧f≤5):∀(k:Nat) (ts:List Bool) (l:Int) (e:Edge),aJ f M k ts l e→aJ f M' k ts l e:=by
 intro k;induction k with
 |zero=>intro ts l e h;exact h
 |succ k j=>
  intro ts l e h;obtain⟨B,lo,hi,q,s,t⟩:=h;exact⟨B,lo,hi,j _ _ _ q,j _ _ _ s,t.ext z A⟩
def cu (M:St)(f:Int)(e:Edge)(l:Int):Prop:=f=3∨f=4∨f=5→aZ M f e l=true
structure jS (f:Int)(M:St)(l:Int)(lo hi:Edge):Prop where
 hx:cV M (ay f M l lo hi)=0
 f':dJ f (aX M (ay f M l lo hi)) l lo hi (aL f M (ay f M l lo hi))
 b8:ei M (aX M (ay f M l lo hi)) 1
 right:cu (aX M (ay f M l lo hi)) f (aL f M (ay f M l lo hi)) l
theorem jn.all {f:Int}{M:St}{l:Int}{lo hi:Edge}(h:jn f M l lo hi)(j:f=3∨f=4∨f=5):jS f M l lo hi:=by
 have e:ay f M l lo hi=du f M l lo hi:=by rcases j with rfl|rfl|rfl<;>rfl
 refine⟨by rw[e];exact h.hx,by rw[e];exact h.gf.f' j,by rw[e];exact h.b8,fun _=>by rw[e];exact h.gf.right⟩
theorem so {f:Int}{M:St}{l:Int}{lo hi:Edge}(h:M.wf)(U:f=1∨f=2)(J:0≤l)(T:l<M.n)(z:M.len<M.room)(B:M.leads f lo (l+1)=true)(E:M.leads f hi (l+1)=true)
  (j:ay f M l lo hi=.inr ⟨f,l,l,lo,hi⟩) (t:M.br ⟨f,l,l,lo,hi⟩=false):jS f M l lo hi:=by
 obtain⟨w1,A,T,q,U,W⟩:=k7 h t z
 have s:=ot h t z
 have S:=h.bw
 have O:=h.n0
 have I:aX M (ay f M l lo hi)=M.a7 ⟨f,l,l,lo,hi⟩:=by rw[j];rfl
 have N:aL f M (ay f M l lo hi)=⟨0,M.bd ⟨f,l,l,lo,hi⟩⟩:=by
  rw[j];unfold aL;rw[ag (by omega)];exact fB w1
 have L:(M.a7 ⟨f,l,l,lo,hi⟩).leads f ⟨0,M.bd ⟨f,l,l,lo,hi⟩⟩ l=true:=
  a9.2 ⟨bK.2 ⟨by omega,by omega,by rw[q];exact O,by rw[q];exact S,J,by rw[q];omega,fun _=>rfl,fun O=>by omega⟩,.inr ⟨_,A,rfl,Int.le_refl _,J⟩⟩
 refine⟨by rw[j];exact w1,?_,by rw[I];exact oA h t z,fun J=>by omega⟩
 rw[N,I]
 refine⟨.inr ⟨_,?_,A,by unfold eh;rw[ag (by omega)]⟩,?_,L,s.leads B,s.leads E⟩
 ·rw[sk s B E (by omega)];exact j
 ·left;unfold aj;rw[ag (by rw[q];omega),ag (by rw[L];simp),ag (by omega)];show(match look (M.a7 ⟨f,l,l,lo,hi⟩).cs (M.bd ⟨f,l,l,lo,hi⟩)with|none=>_|some r=>_)=_;rw[A];show(if l<l then _ else if(f=3∨f=4)∧l≠l then _ else _)=_;rw[ag (by omega),ag (by omega)]
theorem tn {f:Int}{M:St}{l:Int}{lo hi:Edge}(h:M.wf)(L:f=1∨f=2)(E:0≤l)(J:l<M.n)(q:M.leads f lo (l+1)=true)(A:M.leads f hi (l+1)=true)
  (j:ay f M l lo hi=.inl (lo,0)) (z:aN f l lo=(lo,hi,0)):jS f M l lo hi:=by
 have s:aX M (ay f M l lo hi)=M:=by rw[j];rfl
 have B:aL f M (ay f M l lo hi)=lo:=by
  rw[j];unfold aL;split<;>rfl
 have t:=mq q E (show l≤l+1 by omega)
 refine⟨by rw[j];rfl,?_,by rw[s];exact ei.refl h (by omega),fun E=>by omega⟩
 rw[B,s]
 refine⟨.inl j,.inl ?_,t,q,A⟩
 unfold aj
 rw[ag (by omega),ag (by rw[t];simp),ag (by omega)]
 cases I:look M.cs lo.to with
 |none=>simp only[];rw[z]
 |some r=>
  obtain⟨j,s,t⟩:=dY q I;simp only[];rw[ah (by omega),z]
theorem zv {M:St}(h:M.wf){l:Int}{lo hi:Edge}(s:0≤l)(t:l<M.n)(B:M.len<M.room)(j:M.leads 1 lo (l+1)=true)(q:M.leads 1 hi (l+1)=true):jS 1 M l lo hi:=by
 have A:¬(l<0∨M.n≤l):=by omega
 have z:¬(M.leads 1 lo (l+1)=false∨M.leads 1 hi (l+1)=false):=by rw[j,q];simp
 by_cases c:lo=hi
 ·refine tn h (.inl rfl) s t j q (by rw[gE];unfold az cW;rw[ag A,ag z,ah c]) ?_;subst c;rfl
 ·exact so h (.inl rfl) s t B j q (by rw[gE];unfold az cW;rw[ag A,ag z,ag c]) (ko (f:=1) s t j q (by omega) (fun _ _=>c))
theorem zw {M:St}(h:M.wf){l:Int}{lo hi:Edge}(s:0≤l)(t:l<M.n)(E:M.len<M.room)(q:M.leads 2 lo (l+1)=true)(j:M.leads 2 hi (l+1)=true):jS 2 M l lo hi:=by
 have A:¬(l<0∨M.n≤l):=by omega
 have z:¬(M.leads 2 lo (l+1)=false∨M.leads 2 hi (l+1)=false):=by rw[q,j];simp
 obtain⟨J,L,N,O,S,T,I,U⟩:=bK.1 (a9.1 j).1;by_cases c:hi.to=0
 ·refine tn h (.inr rfl) s t q j (by rw[gF];unfold az dc;rw[ag A,ag z,ah c]) ?_
  have B:hi=⟨0,0⟩:=by
   have:=I (.inl (by decide));cases hi;simp at this c;rw[this,c]
  rw[B];rfl
 ·exact so h (.inr rfl) s t E q j (by rw[gF];unfold az dc;rw[ag A,ag z,ag c]) (ko (f:=2) s t q j (fun _=>c) (by omega))
theorem rW {f:Int}{M:St}(h:M.wf){l:Int}{lo hi:Edge}(I:1≤f∧f≤5)(j:0≤l)(q:l<M.n)(s:M.len<M.room)(A:M.leads f lo (l+1)=true)(B:M.leads f hi (l+1)=true)
  (z:cu M f lo (l+1)) (t:cu M f hi (l+1)):jS f M l lo hi:=by
 have E:f=1∨f=2∨f=3∨f=4∨f=5:=by omega
 rcases E with rfl|rfl|rfl|rfl|rfl
 ·exact zv h j q s A B
 ·exact zw h j q s A B
 ·exact(zy h j q s (z (.inl rfl)) (t (.inl rfl))).all (.inl rfl)
 ·exact(zz h j q s (z (.inr (.inl rfl))) (t (.inr (.inl rfl)))).all (.inr (.inl rfl))
 ·exact(zA h j q s (z (.inr (.inr rfl))) (t (.inr (.inr rfl)))).all (.inr (.inr rfl))
theorem ez {M M':St}(j:aD M M')(h:M.wf){f:Int}{e:Edge}{l:Int}(s:cu M f e l):cu M' f e l:=fun q=>pk j h (s q)
theorem qO {M:St}(h:M.wf){f:Int}{b:Bool}:cu M f (cY f b M.n) M.n:=fun j=>xF h j
theorem Bk {M A:St}(q:aD M A){roots:List Int}{id:Int}(h:Reaches M.cs roots id):Reaches A.cs roots id:=by
 intro A hS B;refine h A (fun x z t=>?_) (fun x r z t=>?_)
 ·cases j:look M.cs x with
  |none=>exact absurd j t
  |some r=>exact hS x z (by rw[q.sub _ _ j];simp)
 ·have A:=B x r z (q.sub _ _ t);refine⟨fun s=>A.1 ?_,fun s=>A.2 ?_⟩
  ·cases j:look M.cs r.lo.to with
   |none=>exact absurd j s
   |some E=>rw[q.sub _ _ j];simp
  ·cases j:look M.cs r.hi.to with
   |none=>exact absurd j s
   |some E=>rw[q.sub _ _ j];simp
theorem uX (j:Nat)(w:World):Calls Tryz.prog 165 #[.pointer (some ⟨j,0,none⟩)] w fun e w'=>
  e=.returned (.func (.func 209) #[] #[.pointer (some ⟨w.heap.size,0,none⟩)])∧w'.cell? ⟨w.heap.size,0,none⟩=some (.pointer (some ⟨j,0,none⟩))∧ae w w':=by
 go_enter Tryz.func165,Tryz.ntmps165;go_wp2;go_ret;exact⟨rfl,by simp[go_sem],kp⟩
theorem yu (args:Array Value)(w:World):(callFunc 209 args).run Tryz.prog w=.ok (.enter 209 args) w:=enters_of Tryz.func209 (by kernel_rfl) rfl args w
open Go.RowKit Go.Shelf
attribute [local go_sem] Oper.semAt_some
theorem _root_.Go.World.ownsMap.keepUpd {G:Nat→Prop}{H:Type}{P:Program}{k:TypeId}{R:Value→Option (DataW H×List MemPlace)}{w j:World}{b n:Nat}{D:DataW H}(h:w.ownsMap P k R b n D)(z:af G w j)(t:¬G b):j.ownsMap P k R b n D:=by
 obtain⟨es,q,j,s⟩:=h;exact⟨es,q,(z.block b (Array.getElem?_eq_some_iff.1 j).1 t).trans j,s⟩
theorem tN {F:Nat→Prop}{w:World}{sb:Nat}{M:St}(h:ak F w sb M)(a:Option Addr)(len cap:Nat)(es:List Edge)(be:fu w a len es)(ea:len≤1048576) :
  Calls Tryz.prog 101 #[.pointer (some ⟨sb,0,none⟩),.slice a len cap] w fun e w'=>e=.returned (.int .i64 ((eo M (es.map Edge.to)).length:Int))∧af F w w'∧ak (aC F w w') w' sb (dG M (es.map Edge.to)):=by
 have cj:=aa (sS h a len cap es be ea)
 have al:=aa h
 have ea:=h.lt _ h.own
 obtain⟨O,ib,a7,a8,d1,ea⟩:∃O ib,w.cell? ⟨sb,1,none⟩=some (.pointer (some ⟨O,0,none⟩))∧w.cell? ⟨sb,2,none⟩=some (.pointer (some ⟨ib,0,none⟩))∧Hid (∃a5,dy a5 w O M.cs M.gone M.len M.room)∧M.cs.length≤1048576:=by
  obtain⟨⟨O,ib,ts,a5,c3,bi,a3,_⟩,_⟩:=h;exact⟨O,ib,by rw[cell_of_row w sb 1 _ _ _ bi];rfl,by rw[cell_of_row w sb 2 _ _ _ bi];rfl,aa ⟨a5,a3⟩,a3.bx⟩
 obtain⟨eS,hi,et,ev,eR⟩:=info_parts mj
 clear h be
 refine(callsIn_wide (n:=3)).1 ?_
 refine callsIn_of_wp_marks Tryz.func101 rfl trivial ?_ rfl
 simp only[Tryz.ntmps101,List.size_toArray,dm,List.length_nil,Nat.reduceAdd,Nat.reduceSub,Array.replicate_succ,Array.replicate_zero,List.push_toArray,List.append_toArray,List.nil_append,List.cons_append]
 gi_wp2_with fail
 refine⟨trivial,?_⟩
 refine(callsIn_wide.2 cj.out).mono ?_
 rintro e w1 ⟨b,L,rfl,cj,b6,ea,a0,be⟩
 have dl:=aa cj
 have c9:=aa be
 have a7:=be.cell a7
 have a8:=be.cell a8
 have ea:=be.size
 have ea:sb<w1.heap.size:=by omega
 clear cj be
 gi_wp2_with fail
 refine⟨trivial,?_⟩
 refine(callsIn_wide.2 (uX O _)).mono ?_
 rintro e t ⟨rfl,bd,ad⟩
 gi_wp2_with fail
 rename_i be cd
 simp only[ai]at bd
 have be:w1.heap.size+1+1<t.heap.size:=by have:=aB bd;simpa using this
 have d9:ae w t:=((c9.out.alloc _).alloc _).trans ad
 have c0:t.cell? ⟨w1.heap.size,0,none⟩=some (.map (some b)):=ad.cell (by simp)
 have c1:t.cell? ⟨w1.heap.size+1,0,none⟩=some (.slice none 0 0):=ad.cell (by simp)
 have c2:t.frozen? ⟨w1.heap.size+1,0,none⟩=false:=(Below.frozen (p:=⟨w1.heap.size+1,0,none⟩) ad (by simp)).trans (by simp[go_sem])
 have cx:=((b6.alloc (.cells #[.map (some b)] 187)).alloc (.cells #[.slice none 0 0] 88)).kept ad.none (by simp)
 have be:b<w1.heap.size:=by obtain⟨_,_,be,_⟩:=b6;exact(Array.getElem?_eq_some_iff.1 be).1
 have a7:=((a7 |> fun h=>(show ae w1 t from(((ae.refl w1).alloc _).alloc _).trans ad).cell h))
 have a8:=((a8 |> fun h=>(show ae w1 t from(((ae.refl w1).alloc _).alloc _).trans ad).cell h))
 clear b6
 refine Ek (xs:=cI M.cs) (c:=0) (St:=fun s=>ae w s∧s.cell? ⟨w1.heap.size+1+1,0,none⟩=some (.pointer (some ⟨O,0,none⟩)))
  (gf:=209) (lb:=#[.pointer (some ⟨w1.heap.size+1+1,0,none⟩)]) rfl yu
  ?iter
  (fun pre s=>(ae w s∧s.cell? ⟨w1.heap.size+1+1,0,none⟩=some (.pointer (some ⟨O,0,none⟩)))∧s.cell? ⟨w1.heap.size,0,none⟩=some (.map (some b)) ∧
    s.ownsMap Tryz.prog 50 (plainElem (H:=Unit) Tryz.prog 3) b L.length (fk L) ∧
    (∃a cap,s.cell? ⟨w1.heap.size+1,0,none⟩=some (.slice a (pre.filter (fun x=>!decide (x∈L))).length cap)∧s.ownsRow (t.heap.size+2) 50 1 (.slice a (pre.filter (fun x=>!decide (x∈L))).length cap) (pre.filter (fun x=>!decide (x∈L))).length ((pre.filter (fun x=>!decide (x∈L))).map (Value.int .u32)))∧s.frozen? ⟨w1.heap.size+1,0,none⟩=false)
  (fun _ _=>False) (fun p s ad=>ad.1) ?abide (fun _ _ _ h _=>h) ⟨⟨d9,bd⟩,c0,cx,⟨none,0,c1,World.ownsRow_nil _ _ _ _⟩,c2⟩
  (fun x=>{ tmps:=#[.pointer (some ⟨sb,0,none⟩),.slice a len cap,undef,undef,.int .i64 0,.pointer (some ⟨w1.heap.size,0,none⟩),.pointer (some ⟨w1.heap.size+1,0,none⟩),.int .u32 x,undef,undef,undef,undef,.pointer (some ⟨sb,0,none⟩),.bool false,.pointer (some ⟨sb,0,none⟩),.slice a len cap,.map (some b),.pointer (some ⟨sb,0,none⟩),.pointer (some ⟨sb,0,none⟩),.pointer (some ⟨sb,1,none⟩),.pointer (some ⟨O,0,none⟩),.func (.func 209) #[] #[.pointer (some ⟨w1.heap.size+1+1,0,none⟩)],.int .u32 x,undef,undef,undef,undef,undef,undef,undef,undef,undef,undef,undef,undef,undef,undef,undef,undef,undef,undef,undef,undef,undef,undef,undef,undef,undef,undef,undef,undef,undef,undef,undef,undef,undef,undef,undef,undef,undef,undef,undef],defers:=[] })
  ?assign ?body ?done ?stop
 case iter=>
  obtain⟨a5,ad⟩:=d1.out;exact yp (fun s O=>⟨ad.ad O.1,O.2⟩)
 case abide=>
  rintro p s O ⟨⟨z,E⟩,X,Y,⟨a,cap,I,J⟩,aw⟩ O;have a0:∀k,k<t.heap.size→¬(t.heap.size≤k∧k<t.heap.size+(0+2)):=fun k q U=>by omega
  refine⟨⟨z.new O (fun k q=>by omega),O.cellAt (a0 _ (by omega)) E⟩,O.cellAt (a0 _ (by omega)) X,Y.keepUpd O (a0 _ (by omega)),⟨a,cap,O.cellAt (a0 _ (by omega)) I,O.bp (fun k q U=>?_) J⟩,(World.frozen?_of_block (a:=⟨w1.heap.size+1,0,none⟩) (O.block (w1.heap.size+1) (aB I) (a0 (w1.heap.size+1) (by omega)))).trans aw⟩;rcases J.2 with⟨B,_⟩|⟨av,a',b3,B,bs,_⟩
  ·rw[B]at q;simp[Value.ownBlock]at q
  ·rw[B]at q;simp[Value.ownBlock]at q;omega
 case assign=>
  intro l' m x s K Z;gi_wp2
  exact Z
 case body=>
  rintro l' m pre x s ⟨⟨z,E⟩,X,Y,⟨T,W,I,J⟩,aw⟩ bw O;have cE:x∈cI M.cs:=bw.subset (by simp)
  obtain⟨O,ad⟩:2≤x∧x-2<(M.cs.length:Int):=by
   have:=mh.1 cE;cases bv:look M.cs x with
   |none=>exact absurd bv this
   |some r=>have:=ck bv;omega
  have er:(Lit.int .u32 x).wf=true:=by simp[Lit.wf,show IntKind.u32.min=0 from rfl,show IntKind.u32.max=4294967295 from rfl];omega
  have d7:=Maps.keyOf_int_mk Tryz.underlying50 er;obtain⟨j,S⟩:∃j,j=pre.filter (fun x=>!decide (x∈L)):=⟨_,rfl⟩
  have cl:(pre++[x]).filter (fun x=>!decide (x∈L))=j++(if x∈L then []else [x]):=by
   rw[List.filter_append,←S];by_cases N:x∈L<;>simp[N]
  have O:j.length+1≤1048576:=by
   have cg:j.length≤pre.length:=(by rw[S];exact List.length_filter_le _ _);have ch:=bw.length_le
   have dB:(cI M.cs).length≤M.cs.length:=by
    unfold cI;rw[ri];exact List.length_filter_le _ _
   simp at ch;omega
  rw[←S]at I J;have bp:=aa cl;have O:=aa bw;clear cl bw S cE;have b5:=aB I;have ec:=aB X;dsimp only at b5 ec
  have cb:∀k,Value.ownBlock (.slice T j.length W)=some k→t.heap.size+2≤k:=fun k q=>by
   rcases J.2 with⟨B,_⟩|⟨av,a',b3,B,bs,_⟩
   ·rw[B]at q;simp[Value.ownBlock]at q
   ·rw[B]at q;simp[Value.ownBlock]at q;omega
  have ee:j.length+1≤maxLen:=by unfold maxLen;omega
  have eg:(j.length+1)*4≤140737488355328:=by omega
  obtain⟨c,O,br,-⟩:=Y.lookup_int (Maps.int_keyed Tryz.underlying50) Tryz.underlying187 Tryz.underlying3 (uz _) d7;have ce:=aa Y;clear Y;by_cases N:x∈L
  ·rw[rX N]at br;cases br;gi_wp2
   refine⟨fun k _ _=>rfl,aE _,⟨z,E⟩,X,ce.out,⟨T,W,?_,?_⟩,aw⟩
   ·rw[bp.out,ah N,List.append_nil];exact I
   ·rw[bp.out,ah N,List.append_nil];exact J
  ·rw[rY N]at br;cases br;have bn:=aa J
   gi_wp2_with (first
    |(gi_at_builtin;refine wpListIn_append_own _ rfl _ _ 88 rfl (t.heap.size+2) 50 eS (.int .u32 0) 1 4 Tryz.underlying88 hi et ev eR rfl (by decide) (.slice T j.length W) j.length (j.map (Value.int .u32)) rfl (bn.out.alloc _) ⟨s.heap.size,0,none⟩ 1 1 [.int .u32 x] rfl rfl (cell_one_new _ _ _) (by simp[Value.oneCell']) (by exact ee) (by exact eg) (by simp;omega) ?_;intro e1 a4 b7 d5 _;obtain⟨av,a',rfl⟩:=ownsRow_succ b7;obtain⟨el,dr,d0⟩:=wk d5 cb (by omega) I aw)
    |fail)
   have L:t.heap.size+2≤av:=by
    rcases b7.2 with⟨B,_⟩|⟨ci,cap2,b3,B,bs,_⟩
    ·simp at B
    ·simp at B;omega
   have a1:af (fun k=>Value.ownBlock (.slice T j.length W)=some k∨k=w1.heap.size+1) s (a4.setCell ⟨w1.heap.size+1,0,none⟩ (.slice (some ⟨av,0,none⟩) (j.length+1) a')):=
    af.setCell (F:=fun k=>Value.ownBlock (.slice T j.length W)=some k∨k=w1.heap.size+1) (el.mono (fun k _ q=>Or.inl q)) (p:=⟨w1.heap.size+1,0,none⟩) (.inl (Or.inr rfl)) _
   have em:af (fun k=>k=w1.heap.size+1) a4 (a4.setCell ⟨w1.heap.size+1,0,none⟩ (.slice (some ⟨av,0,none⟩) (j.length+1) a')):=
    af.setCell (F:=fun k=>k=w1.heap.size+1) (af.refl _ a4) (p:=⟨w1.heap.size+1,0,none⟩) (.inl rfl) _
   have bt:∀k,k<t.heap.size+2→k≠w1.heap.size+1→¬(Value.ownBlock (.slice T j.length W)=some k∨k=w1.heap.size+1):=fun k bi a3 U=>by
    rcases U with U|U;·have:=cb _ U;omega
    ·exact a3 U
   refine⟨fun k bi a3=>a1.block k (by omega) (bt k (by omega) (by omega)),a1.size,⟨z.new a1 (fun k q=>?_),a1.cellAt (bt _ (by omega) (by omega)) E⟩,a1.cellAt (bt _ (by omega) (by omega)) X,ce.out.keepUpd a1 (bt b (by omega) (by omega)),⟨some ⟨av,0,none⟩,a',?_,?_⟩,?_⟩
   ·rcases q with q|q;·have:=cb _ q;omega
    ·omega
   ·rw[bp.out,ag N,di];simp[go_sem,dr]
   ·have:=em.bp (fun k q U=>by simp[Value.ownBlock]at q;omega) b7;rw[bp.out,ag N,di,fL];exact this
   ·simp[go_sem,d0]
 case done=>
  rintro s ⟨⟨z,E⟩,X,Y,⟨T,W,I,J⟩,aw⟩ Z;rw[xY dl.out]at I J;obtain⟨j,S⟩:∃j,j=eo M (es.map Edge.to):=⟨_,rfl⟩;rw[←S]at I J
  have L:j.length≤1048576:=by
   have cg:j.length≤(cI M.cs).length:=by rw[S];exact List.length_filter_le _ _
   have dB:(cI M.cs).length≤M.cs.length:=by
    unfold cI;rw[ri];exact List.length_filter_le _ _
   omega
  obtain⟨b2,cS,cD⟩:=(al.out.ad z).hM j;have dk:=aa cD;have c6:=aa z;have b0:=aa Z;have bn:=aa J;have bq:=aa S;have L:=z.size;have ed:=aB I;dsimp only at ed;clear z E X Y cD S J aw Z cx c0 c1 c2 a7 a8 bd;have co:∀A,w.heap.size≤A→¬F A:=fun A ab J=>by have:=al.out.lt _ J;omega
  have cy:∀A id,j[A]?=some id→∃g,T=some ⟨g,0,none⟩∧t.heap.size+2≤g∧s.cell? ⟨g,A,none⟩=some (.int .u32 id):=by
   intro A id ab;have J:=(List.getElem?_eq_some_iff.1 ab).1;rcases bn.out.2 with⟨B,J⟩|⟨ci,cap2,b3,B,bs,_⟩
   ·omega
   ·cases B;refine⟨ci,rfl,bs,?_⟩;rw[bn.out.cellAt A (by omega)];simp[ab]
  have db:=aa cy;have b1:=aa co
  have B:∀x∈j,look M.cs x≠none∧2≤x∧x-2<(M.cs.length:Int):=fun x bg=>by
   rw[bq.out]at bg;exact⟨(ld.1 bg).1,oz bg⟩
  have cc:=aa B;have J:j.Nodup:=by rw[bq.out];exact qW _ _
  have da:=aa J;clear cy co B J;refine cd _ _ (wpIn_wide.2 ?_);clear cd;go_wp2_with fail;go_loopg [33] j.length (fun gk v wr=>∃k:Nat,k+gk=j.length∧v=.int .i64 (k:Int)∧fw F s wr sb b2 cS M j k k)
  case atStart=>exact⟨0,by omega,rfl,dk.out⟩
  case round=>
   obtain⟨k,q,rfl,hS⟩:=hrel;have am:=aa hS;have ca:=aa hS.av;have q:=hS.av.size;clear hS;by_cases b5:k<j.length
   ·obtain⟨id,hid⟩:∃id,j[k]?=some id:=⟨_,ar b5⟩;obtain⟨g,rfl,s,q⟩:=db.out k id hid;have s:wr.cell? ⟨g,k,none⟩=some (.int .u32 id):=ca.out.cellAt (b1.out g (by omega)) q;obtain⟨cn,d6,q⟩:=cc.out id (bB hid)
    obtain⟨r,b8⟩:∃r,look M.cs id=some r:=by
     cases bv:look M.cs id with
     |none=>exact absurd bv cn
     |some r=>exact⟨r,rfl⟩
    have b9:∀x∈j.take k,2≤x:=fun x bg=>(cc.out x (List.mem_of_mem_take bg)).2.1
    have cp:id∉j.take k:=by
     intro N;obtain⟨A,ab⟩:=List.getElem?_of_mem N
     have q:A<k:=by
      have:=(List.getElem?_eq_some_iff.1 ab).1;rw[iV]at this;omega
     rw[List.getElem?_take_of_lt q]at ab;have z:=List.getElem?_eq_some_iff.1 ab;have E:=List.getElem?_eq_some_iff.1 hid;have:=(List.getElem_inj (h₀:=z.1) (h₁:=E.1) da.out).1 (by rw[z.2,E.2]);omega
    have bf:look (dV M.cs (j.take k)) id=some r:=by rw[oO b9,ag cp,b8]
    have cv:∀bx i A,look (dV M.cs (j.take k)) i=some bx→look (dV M.cs (j.take k)) A=some bx→i=A:=by
     intro bx i A z E;rw[oO b9]at z E;split at z;·cases z
     ·split at E;·cases E
      ·exact al.out.b3 bx i A z E
    have ek:r.ok:=al.out.b0 b8
    have eb:1≤M.len-k:=by
     obtain⟨ts,a5,c3,bi,a3,q,e0,_⟩:=am.out.a8;obtain⟨i,q⟩:=(e0 r id).2 bf;have:=mD q;omega
    have c5:=aa (fun(a6:World) (bb:ae wr a6)=>(am.out.ad bb).get (by omega) bf);have c7:=aa (fun(a6:World) (bb:ae wr a6)=>(am.out.ad bb).hA hid d6 ek bf cv);have cf:wr.cell? ⟨sb,1,none⟩=some (.pointer (some ⟨b2,0,none⟩)):=(by rw[cell_of_row wr sb 1 _ _ _ am.out.head];rfl);have ds:wr.cell? ⟨sb,2,none⟩=some (.pointer (some ⟨cS,0,none⟩)):=(by rw[cell_of_row wr sb 2 _ _ _ am.out.head];rfl);have c':=aa bf;have c8:=aa hid;clear bf hid cv b9 cp b8 cn;have q:sb<wr.heap.size:=aB cf;go_wp2_with fail;refine(c5.out _ kp).mono ?_;rintro e a4 ⟨rfl,q⟩;have cg:=q.cell cf;have ch:=q.cell ds;have s:=q.size;have q:sb<a4.heap.size:=(by omega);go_wp2_with fail;refine kN 6 #[true,true,true,true,true,true,false] (by kernel_rfl) (by kernel_rfl) ?_;simp only[List.take_succ_cons,List.take_zero,List.drop_succ_cons,List.drop_zero];repeat still_step
    refine wpStill_nil ?_;refine wpAny_ready (fuel:=0) (rs:=[6]) (by kernel_rfl) (by decide) (AllReady.cons rfl (fun K Z=>?_) AllReady.nil);go_simp;refine(c7.out _ kp).mono ?_;rintro e bD ⟨rfl,b4⟩;refine Z _ _ ?_;clear Z K;refine wpAny_done (by kernel_rfl) ?_ _;have c4:=aa (fun(a6:World) (bb:ae bD a6)=>(b4.ad bb).hr c8.out c'.out eb);have d4:bD.cell? ⟨sb,1,none⟩=some (.pointer (some ⟨b2,0,none⟩)):=(by rw[cell_of_row bD sb 1 _ _ _ b4.head];rfl);have q:sb<bD.heap.size:=aB d4;clear b4;go_wp2_with fail;refine(c4.out _ kp).mono ?_;rintro e q ⟨rfl,q⟩;have dj:=aa q;clear q;go_wp2;go_roundg (gk-1)
    case rel=>exact⟨k+1,by omega,by simp,dj.out⟩
    case measure=>omega
   ·have bd:wr.cell? ⟨w1.heap.size+1,0,none⟩=some (.slice T j.length W):=ca.out.cellAt (b1.out _ (by omega)) I;have d8:k=j.length:=(by omega);subst d8;have d2:wr.heap[t.heap.size]?=some (.deferred (some [])):=(ca.out.block _ (Array.getElem?_eq_some_iff.1 b0.out).1 (b1.out _ (by omega))).trans b0.out;have d3:=(Array.getElem?_eq_some_iff.1 b0.out).1;go_wp2;refine⟨by simp,.inl ⟨_,_,rfl,run_takeDeferred d2,?_⟩⟩;have ep:af (fun k=>k=t.heap.size) wr (wr.putObj t.heap.size (.deferred none)):=af.putObj (F:=fun k=>k=t.heap.size) (af.refl _ wr) (.inl rfl) _;have hS:=am.out;rw[bq.out]at hS;refine⟨_,results_tmp rfl _ _ _,by rw[bq.out];rfl,hS.done al.out.wf c6.out al.out.lt (by omega) d3 ep⟩
 case stop=>exact fun _ _ _ h _=>h.elim
theorem oq (n:Nat)(B:n≤5)(w:World) :
  Calls Tryz.prog 103 #[.int .i64 (n:Int)] w fun e w'=>e=.returned (.int .i64 (ct n:Int))∧w=w':=by
 have t:n=0∨n=1∨n=2∨n=3∨n=4∨n=5:=by omega
 go_enter Tryz.func103,Tryz.ntmps103
 go_wp2_with fail
 go_loopg [3,4] (n-1) (fun gk B E wr=>∃i:Nat,E=.int .i64 ((i+2:Nat):Int)∧B=.int .i64 (ct (i+1):Int)∧i≤n∧n-1-i=gk∧(i+1≤n∨i=0)∧wr=w)
 case atStart=>exact⟨0,rfl,rfl,by omega,rfl,.inr rfl,rfl⟩
 case round=>
  obtain⟨i,rfl,rfl,hi,I,A,rfl⟩:=hrel;by_cases B:i+2≤n
  ·have z:i=0∨i=1∨i=2∨i=3:=(by omega);rcases z with rfl|rfl|rfl|rfl
   all_goals
    simp only[ct]
    go_wp2_with fail
    go_roundg (gk-1)
    case rel=>exact⟨_+1,rfl,rfl,by omega,by omega,.inl (by omega),rfl⟩
    case measure=>omega
  ·have j:(ct (i+1):Int)=(ct n:Int):=by
    rcases A with q|q;·rw[show i+1=n by omega]
    ·subst q;have:n=0∨n=1:=(by omega);rcases this with rfl|rfl<;>rfl
   rw[j];clear t j;obtain⟨F,hF⟩:∃F:Nat,F=ct n:=⟨_,rfl⟩;have s:=aa hF;rw[←hF];clear hF;go_wp2_with fail;go_ret;exact⟨by rw[←s.out];rfl,rfl⟩
structure kR (w0 wr:World)(LB base n c r R:Nat)(left pr:List Int)(v:Value):Prop where
 len:left.length=c
 cn:c≤n
 hg:pr.length=n-c
 lt:r<ct c
 own:jo wr LB left
 row:wr.ownsRow base 3 1 v (n-c) (pr.map (Value.int .i64))
 all:pr++jj c left r=fq n R
 ad:ae w0 wr
 lb:LB<base∧base≤wr.heap.size∧w0.heap.size≤LB
theorem kR.pos {w0 wr:World}{j q n c r R:Nat}{left s:List Int}{v:Value}(h:kR w0 wr j q n (c+1) r R left s v):r / ct c<left.length:=by
 rw[h.len];have:=h.lt;have e:ct (c+1)=(c+1)*ct c:=rfl;rw[e]at this;exact Nat.div_lt_of_lt_mul (by rw[iW];exact this)
theorem Aq {w:World}{lo j:Nat}{e:TypeId}{size:Nat}{v:Value}{n:Nat}{xs:List Value}(t:j≤lo)(h:w.ownsRow lo e size v n xs):w.ownsRow j e size v n xs:=by
 refine⟨h.1,?_⟩;rcases h.2 with z|⟨g,cap,j,q,s,rest⟩;·exact .inl z
 ·exact .inr ⟨g,cap,j,q,eF t s,rest⟩
theorem Ab {c r:Nat}{left:List Int}(h:r / ct c<left.length):∃x,left[r / ct c]?=some x∧jj (c+1) left r=x::jj c (left.eraseIdx (r / ct c)) (r%ct c):=by
 refine⟨left[r / ct c],ar h,?_⟩;show left.getD (r / ct c) 0::_=_;rw[dC,ar h];rfl
theorem AF (n R:Nat)(a7:n≤5)(co:R<ct n)(w:World) :
  Calls Tryz.prog 51 #[.int .i64 (n:Int),.int .i64 (R:Int)] w fun e w'=>∃a cap,e=.returned (.tuple #[.slice a n cap,.bool true])∧w'.ownsRow w.heap.size 3 1 (.slice a n cap) n ((fq n R).map (Value.int .i64))∧ae w w':=by
 obtain⟨b5,hi,b2,b3,b4⟩:=info_parts jB
 have ch:=aa (fun z:World=>sJ n (by omega) z)
 have bd:=aa (fun z:World=>oq n a7 z)
 obtain⟨Fn,a3⟩:∃F,F=ct n:=⟨_,rfl⟩
 have c8:¬(Fn:Int)≤(R:Int):=by omega
 have cp:R<Fn:=by omega
 rw[←a3]at bd
 have cc:=aa a3
 clear a3 co
 go_enter Tryz.func51,Tryz.ntmps51
 go_wp2_with (first
  |(go_at_call 102;refine(ch.out _).mono ?_;rintro e w1 ⟨rfl,a4,a6⟩)
  |(go_at_call 103;refine(bd.out _).mono ?_;rintro e c6 ⟨rfl,rfl⟩)
  |(at_make;refine wpList_make_own _ rfl _ _ 22 rfl w1.heap.size 3 b5 (.int .i64 0) 1 Tryz.underlying22 hi b2 b3 .i64 .i64 (n:Int) n rfl rfl rfl (by rw[b4];omega) (by unfold maxLen;omega) (aE _) ?_;intro b7 t s)
  |fail)
 have av:ae w1 b7:=⟨s.os,s.tape,s.output,s.size,fun i hi=>s.block i hi (by simp)⟩
 have bw:=a4.lt
 have aw:=a6.size
 have c4:=av.size
 have Z:=a4.ad av
 obtain⟨B,bq⟩:∃a1,a1=w.heap.size:=⟨_,rfl⟩
 obtain⟨E,bs⟩:∃a1,a1=w1.heap.size:=⟨_,rfl⟩
 rw[←bq]at Z bw aw ⊢
 rw[←bs]at t bw c4 aw ⊢
 have b1:kR w b7 B E n n R R (fc n) [] (.slice (some ⟨E,0,none⟩) 0 n):=⟨ku n,aE _,by simp,by rw[←cc.out];exact cp,fun i x S=>⟨Z.cell S,Z.frozen i⟩,by rw[Nat.sub_self];exact t,rfl,a6.trans av,by omega,by omega,by omega⟩
 have bi:=aa b1
 clear b1 Z a4 t s av a6 bq bs
 go_wp2_with fail
 go_loopg [1,6,8,9] n (fun gk aw Z av a1 wr=>∃(r:Nat) (left W:List Int),a1=.int .i64 ((gk:Int)-1)∧aw=.int .i64 (r:Int)∧Z=.slice (some ⟨B,0,none⟩) gk n∧kR w wr B E n gk r R left W av)
 case atStart=>exact⟨R,fc n,[],rfl,rfl,rfl,bi.out⟩
 case round=>
  clear bi;obtain⟨r,left,W,rfl,rfl,rfl,q⟩:=hrel;obtain⟨T,U,rfl,cy⟩:=dv q.row;have cx:=q.cn;by_cases c0:gk=0
  ·subst c0
   have bx:wr.ownsRow E 3 1 (.slice T n U) n ((fq n R).map (Value.int .i64))∧ae w wr:=by
    have X:=q.row;have Y:=q.all;rw[show jj 0 left r=[]from rfl,List.append_nil]at Y;rw[Y,Nat.sub_zero]at X;exact⟨X,q.ad⟩
   have bf:=aa bx;have Z:=q.lb;clear q bx;rw[Nat.sub_zero];go_wp2_with fail;go_ret2;have cS:=bf.out.1;exact⟨T,U,rfl,Aq (by omega) cS,bf.out.2⟩
  ·obtain⟨c,rfl⟩:∃c,gk=c+1:=⟨gk-1,by omega⟩;have L:=q.pos;obtain⟨x,S,bv⟩:=Ab L;have cn:=mf c;have bb:=aa (fun z:World=>oq c (by omega) z);obtain⟨bn,bp⟩:=q.own _ _ S;have A:=aa q;have Z:=aa S;have ce:=aa bv;have cE:=q.lt
   have cD:ct (c+1)≤120:=by
    have:c=0∨c=1∨c=2∨c=3∨c=4:=(by omega);rcases this with rfl|rfl|rfl|rfl|rfl<;>decide
   have Z:r<120:=(by omega);rw[q.len]at L;clear q S bv cE cD;obtain⟨F,hF⟩:∃F,F=ct c:=⟨_,rfl⟩;have cb:=aa hF;rw[←hF]at L cn bb bn bp;obtain⟨J,ad⟩:∃J,J=r / F:=⟨_,rfl⟩;obtain⟨m,ab⟩:∃m,m=r%F:=⟨_,rfl⟩;rw[←ad]at L bn bp;have q:(r:Int) / (F:Int)=(J:Int):=(by rw[ad];exact_mod_cast rfl);have q:(r:Int)%(F:Int)=(m:Int):=(by rw[ab];exact_mod_cast rfl);have q:m≤120:=(by rw[ab];exact eF (Nat.mod_le _ _) (by omega));have cg:=aa (⟨ad,ab⟩:J=r / F∧m=r%F);clear hF ad ab;rw[show((c+1:Nat):Int)-1=(c:Int) by omega];obtain⟨d,a5⟩:∃d,d=n-(c+1):=⟨_,rfl⟩;have a':=A.out.row;rw[←a5]at a' cy ⊢;have q:d+(c+1)=n:=(by omega);have bg:=aa a';have b9:=aa a5;have b0:=A.out.own;have cf:=aa b0;have N:=A.out.len;have be:=aa N;obtain⟨c1,q,b6⟩:=A.out.lb;have q:=A.out.ad.size;have c2:d+1≤maxLen:=(by unfold maxLen;omega);have c3:(d+1)*8≤140737488355328:=(by omega);have q:=fun(z:World) (X:jo z B left) (Y:B<z.heap.size)=>xr B n J left z X Y (by rw[N];exact cx) (by omega) (by rw[N];exact L);rw[N,Nat.add_sub_cancel]at q;have ca:=aa q;clear a' a5 b0 N q
   go_wp2_with (first
    |(go_at_call 103;refine(bb.out _).mono ?_;rintro e c6 ⟨rfl,rfl⟩)
    |(at_builtin;refine wpList_append_own _ rfl _ _ 22 rfl E 3 b5 (.int .i64 0) 1 8 Tryz.underlying22 hi b2 b3 b4 rfl (by decide) (.slice T d U) d (W.map (Value.int .i64)) rfl (bg.out.alloc _) ⟨wr.heap.size,0,none⟩ 1 1 [.int .i64 x] rfl rfl (eU _ _ _ _ rfl) (by simp[Value.oneCell']) (by exact c2) (by exact c3) (by simp;omega) ?_;intro c5 b8 t s _)
    |fail)
   have a8:∀k,Value.ownBlock (.slice T d U)=some k→E≤k:=fun k j=>by
    rcases bg.out.2 with⟨I,_⟩|⟨cl,ci,cj,I,cv,_⟩
    ·rw[I]at j;simp[Value.ownBlock]at j
    ·rw[I]at j;simp[Value.ownBlock]at j;omega
   have q:af (fun k=>Value.ownBlock (.slice T d U)=some k) wr b8:=(((ae.refl wr).alloc _).av _).bg ⟨s.os,s.tape,s.output,s.size,fun k j a7=>s.block k j (fun e=>a7 e.symm)⟩;have O:ae w b8:=A.out.ad.new q (fun k j=>by have:=a8 k j;omega);have z:=q.size;have z:=cf.out.a4 q (by omega) (fun j=>by have:=a8 _ j;omega);have a0:=aa (⟨t,O,z⟩:_∧_∧_);clear t O z q a8 s;refine(ca.out _ a0.out.2.2 (by omega)).mono ?_;rintro e c7 ⟨rfl,bD,am⟩;obtain⟨t,O,-⟩:=a0.out
   have bt:kR w c7 B E n c m R (left.eraseIdx J) (W++[x]) c5:=by
    have al:=cg.out;rw[cb.out]at al;have br:=A.out.all;rw[ce.out]at br;refine⟨?_,by omega,?_,?_,bD,?_,?_,O.new am (fun k j=>by subst j;exact b6),⟨c1,?_,b6⟩⟩;·rw[List.length_eraseIdx,ah (by rw[be.out];exact L),be.out,Nat.add_sub_cancel]
    ·rw[di,A.out.hg,←b9.out];show d+1=n-c;omega
    ·rw[al.2];exact bU _ (mf c)
    ·rw[show n-c=d+1 by omega,fL]
     exact am.bp (fun k j e=>by
      rcases t.2 with⟨I,_⟩|⟨cl,ci,cj,I,cv,_⟩
      ·rw[I]at j;simp[Value.ownBlock]at j
      ·rw[I]at j;simp[Value.ownBlock]at j;omega) t
    ·rw[eP,←al.1,←al.2]at *;exact br
    ·have:=am.size;omega
   have cd:=aa bt;clear bt bD am t O a0;go_wp2_with fail;go_roundg c
   case rel=>exact⟨m,left.eraseIdx J,W++[x],by simp,by simp,rfl,cd.out⟩
   case measure=>omega
theorem AG (n:Nat)(A:n≤5)(w:World) :
  Calls Tryz.prog 51 #[.int .i64 (n:Int),.int .i64 (ct n:Int)] w fun e w'=>e=.returned (.tuple #[.slice none 0 0,.bool false])∧ae w w':=by
 have t:=aa (fun j:World=>sJ n (by omega) j)
 have q:=aa (fun j:World=>oq n A j)
 obtain⟨Fn,s⟩:∃F,F=ct n:=⟨_,rfl⟩
 rw[←s]at q ⊢
 clear s
 go_enter Tryz.func51,Tryz.ntmps51
 go_wp2_with (first
  |(go_at_call 102;refine(t.out _).mono ?_;rintro e w1 ⟨rfl,j,z⟩)
  |(go_at_call 103;refine(q.out _).mono ?_;rintro e B ⟨rfl,rfl⟩)
  |fail)
 go_ret2
 exact⟨rfl,z⟩
end Go.Proofs.YtafkamlhimkbmaaGreat
