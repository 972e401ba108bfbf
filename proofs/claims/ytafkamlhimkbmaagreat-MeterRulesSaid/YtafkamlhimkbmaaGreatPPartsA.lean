/-
  The walk of ramageref12.Parts.
-/
import Derived.Test.YtafkamlhimkbmaaGreatPScaleW
namespace Go.Proofs.YtafkamlhimkbmaaGreat
set_option maxRecDepth 1000000
set_option maxHeartbeats 8000000
set_option linter.unusedSimpArgs false
set_option linter.unusedVariables false
open Go.RowKit
def dr:List UInt8→Nat→Nat
 |[],_=>0
 |_::_,0=>0
 |b::s,d+1=>1+dr s (if b=40 then d+2 else if b=41 then d else d+1)
theorem yn (s:List UInt8):dr s 0=0:=by cases s<;>rfl
def jH (l:List UInt8)(i:Nat):Nat:=i+1+dr (l.drop (i+1)) 1
def eW (s:ByteArray):Nat→List ByteArray
 |0=>[]
 |i+1=>if s.data.toList[i]?=some 40 then(if(eW s i).any (fun t=>t.toList==(s.extract i (jH s.data.toList i)).toList)then eW s i else eW s i++[s.extract i (jH s.data.toList i)])else eW s i
def fT (out:List (List UInt8))(x:List UInt8):List (List UInt8):=if x∈out then out else out++[x]
def ps:List UInt8→List (List UInt8)→List (List UInt8)
 |[],out=>out
 |b::s,out=>ps s (if b=40 then fT out ((b::s).take (1+dr s 1))else out)
theorem tB (s:ByteArray)(i j:Nat):(s.extract i j).data.toList=(s.data.toList.drop i).take (j-i):=by
 rw[ByteArray.data_extract,Array.toList_extract]
theorem xh (s:ByteArray):∀(t:List UInt8) (i:Nat),s.data.toList.drop i=t→i+t.length=s.size→ps t ((eW s i).map (fun u=>u.data.toList))=(eW s s.size).map (fun u=>u.data.toList):=by
 intro t;induction t with
 |nil=>
  intro i _ z;simp at z;rw[z];rfl
 |cons b t O=>
  intro i E z
  have I:s.data.toList.drop (i+1)=t:=by
   have:=congrArg List.tail E;rw[List.tail_drop]at this;exact this
  have N:s.data.toList[i]?=some b:=by
   have:=congrArg (fun l=>l[0]?) E;simp only[List.getElem?_drop,gH,List.getElem?_cons_zero]at this;exact this
  rw[←O (i+1) I (by simp at z;omega)];show ps t _=ps t _;congr 1
  show _=(if s.data.toList[i]?=some 40 then _ else _:List ByteArray).map _;rw[N];by_cases D:b=40
  ·subst D;rw[ai rfl,ai rfl]
   have hcut:(s.extract i (jH s.data.toList i)).data.toList=(40::t).take (1+dr t 1):=by
    rw[tB,E];congr 1
    unfold jH;rw[I];omega
   have J:(eW s i).any (fun u=>u.toList==(s.extract i (jH s.data.toList i)).toList)=decide ((40::t).take (1+dr t 1)∈(eW s i).map (fun u=>u.data.toList)):=by
    rw[Bool.eq_iff_iff];simp only[List.any_eq_true,cm,List.mem_map,beq_iff_eq];constructor
    ·rintro⟨u,hs,he⟩;rw[ByteArray.toList_eq,ByteArray.toList_eq,hcut]at he;exact⟨u,hs,he⟩
    ·rintro⟨u,hs,he⟩;exact⟨u,hs,by rw[ByteArray.toList_eq,ByteArray.toList_eq,hcut,he]⟩
   unfold fT;rw[J];by_cases hm:(40::t).take (1+dr t 1)∈(eW s i).map (fun u=>u.data.toList);·rw[ai hm,bM hm,ai rfl]
   ·rw[ag hm,bQ hm,ag (by decide),jB,List.map_cons,hcut];rfl
  ·rw[ag D,ag (fun e=>D (by cases e;rfl))]
theorem xj (s:ByteArray):(eW s s.size).length=(ps s.data.toList []).length:=by
 have:=xh s s.data.toList 0 rfl (by simp);rw[show(eW s 0).map (fun s=>s.data.toList)=[]from rfl]at this;rw[this,j9]
def Flat (s:List UInt8):Prop:=∀b∈s,b≠40∧b≠41
theorem kO {s:List UInt8}(h:Flat s)(v:List UInt8)(d:Nat):dr (s++v) (d+1)=s.length+dr v (d+1):=by
 induction s with
 |nil=>simp
 |cons b s u=>
  have t:=h b List.mem_cons_self;show 1+dr (s++v) _=_;rw[ag t.1,ag t.2,u (fun x s=>h x (ew _ s)),eN];omega
theorem mA {s:List UInt8}(h:Flat s)(v:List UInt8)(out:List (List UInt8)):ps (s++v) out=ps v out:=by
 induction s generalizing out with
 |nil=>rfl
 |cons b s u=>
  have t:=h b List.mem_cons_self;show ps (s++v) _=_;rw[ag t.1,u (fun x s=>h x (ew _ s))]
def dB (k:Int):UInt8:=UInt8.ofNat (48+k).toNat
theorem gI {k:Int}(h0:0≤k)(s:k<10):dB k≠40∧dB k≠41∧dB k≠64:=by
 have:k=0∨k=1∨k=2∨k=3∨k=4∨k=5∨k=6∨k=7∨k=8∨k=9:=by omega
 rcases this with rfl|rfl|rfl|rfl|rfl|rfl|rfl|rfl|rfl|rfl<;>decide
theorem ie {k j:Int}(h0:0≤k)(s:k<10)(t:0≤j)(u:j<10)(h:dB k=dB j):k=j:=by
 have:=congrArg UInt8.toNat h;unfold dB at this;rw[UInt8.toNat_ofNat',UInt8.toNat_ofNat']at this;omega
def bA (f:Int)(M:St)(n:Nat)(e:Edge):List UInt8:=(bW f M n e).data.toList
def iP (f:Int)(e:Edge):List UInt8:=if f=5 then [dB e.tag,64]else []
def fr (f:Int)(r:Rec):List UInt8:=if f=3∨f=4 then [dB r.top,58,dB r.J,32]else [dB r.top,32]
def iL (f:Int)(e:Edge):List UInt8:=if f=5 then(if e.to=0 then [48]else [dB e.tag,64,49])else [dB e.to]
def dF (f:Int)(M:St)(n:Nat)(r:Rec):List UInt8:=40::(fr f r++(bA f M n r.lo++32::(bA f M n r.hi++[41])))
theorem kh (k:Int):(bH k).data.toList=[dB k]:=rfl
theorem iT {f:Int}{M:St}{n:Nat}{e:Edge}(h0:0≤e.to)(h:e.to<2):bA f M (n+1) e=iL f e:=by
 unfold bA bW iL;by_cases s:f=5
 ·rw[ai s,ai s];by_cases t:e.to=0;·rw[ai t,ai t]
  ·rw[ag t,ag t,ai (by omega)];simp[ByteArray.data_append,kh]
 ·rw[ag s,ag s,ai h];rfl
theorem iU {f:Int}{M:St}{n:Nat}{e:Edge}{r:Rec}(h:look M.cs e.to=some r):bA f M (n+1) e=iP f e++dF f M n r:=by
 have z:=(cC h).1;have u:aS (look M.cs e.to)=r:=by rw[h];rfl
 unfold bA bW iP dF fr;rw[u];by_cases t:f=5
 ·rw[ai t,ai t,ag (by omega),ag (by omega),ag (by omega)];simp[ByteArray.data_append,kh,bA]
 ·rw[ag t,ag t,ag (by omega)];by_cases s:f=3∨f=4
  ·rw[ai s,ai s];simp[ByteArray.data_append,kh,bA]
  ·rw[ag s,ag s];simp[ByteArray.data_append,kh,bA]
structure dX (f:Int)(M:St):Prop where
 wf:M.wf
 b7:∀id r,look M.cs id=some r→0≤r.lo.to∧0≤r.hi.to
 n9:M.n≤9
structure At (f:Int)(M:St)(e:Edge)(l:Int)(n:Nat):Prop where
 lead:M.leads f e l=true
 ok:0≤e.to
 hA:M.n<l+n
theorem At.tag {f:Int}{M:St}{e:Edge}{l:Int}{n:Nat}(z:dX f M)(h:At f M e l n):0≤e.tag∧e.tag<10∧(f≠5∨e.to=0→e.tag=0)∧0≤l:=by
 obtain⟨s,_⟩:=iK h.lead;have E:=z.n9;unfold eH at s;split at s;·cases s
 ·rename_i D;simp only[dL,cm,not_or]at D;split at s
  ·rename_i u;have z:e.tag=0:=(by simpa using s);exact⟨by omega,by omega,fun _=>z,by omega⟩
  ·rename_i u;simp only[dL,bne_iff_ne,ne_eq,beq_iff_eq,not_or,Decidable.not_not]at u;simp only[cA,cm]at s;exact⟨by omega,by omega,fun t=>by rcases t with t|t;exact absurd u.1 t;exact absurd t u.2,by omega⟩
theorem At.cases {f:Int}{M:St}{e:Edge}{l:Int}{n:Nat}(t:dX f M)(h:At f M e l (n+1)) :
  (0≤e.to∧e.to<2)∨(∃r,look M.cs e.to=some r∧r.ad=f∧l≤r.top∧r.top≤r.J∧r.J<M.n∧0≤r.top∧r.top<10∧r.J<10∧(r.top=r.J∨f=3∨f=4)∧At f M r.lo (r.J+1) n∧At f M r.hi (r.J+1) n):=by
 obtain⟨N,u⟩:=iK h.lead
 have N:=t.n9
 rcases u with u|⟨r,z,I,J,_⟩
 ·exact .inl ⟨h.ok,u⟩
 ·right;have g:=t.wf.b4 z;have E:=t.b7 _ _ z;have:=g.tb;have:=g.bn;have D:=h.hA;have u:=(h.tag t).2.2.2;subst I;refine⟨r,z,rfl,J,g.tb,g.bn,by omega,by omega,by omega,?_,⟨g.lo,E.1,by push_cast at D;omega⟩,⟨g.hi,E.2,by push_cast at D;omega⟩⟩;rcases g.chain with s|s;·exact .inl s
  ·unfold fF at s;simp only[dL,beq_iff_eq]at s;exact .inr s
theorem At.a8 {f:Int}{M:St}{e:Edge}{l:Int}{n:Nat}(u:dX f M)(h:At f M e l n):∃m,n=m+1:=by
 have s:=(iK h.lead).1;have u:=h.hA;unfold eH at s;split at s;·cases s
 ·rename_i t;simp only[dL,cm,not_or]at t;exact⟨n-1,by omega⟩
theorem pg {f:Int}{M:St}{e:Edge}{l:Int}{n:Nat}(t:dX f M)(h:At f M e l n):Flat (iP f e):=by
 obtain⟨u,z,_⟩:=h.tag t;obtain⟨a,b,_⟩:=gI u z;unfold iP Flat;split
 ·intro x s;simp at s;rcases s with rfl|rfl;·exact⟨a,b⟩
  ·decide
 ·intro x s;simp at s
theorem oC {f:Int}{M:St}{e:Edge}{l:Int}{n:Nat}(t:dX f M)(h:At f M e l n)(h0:0≤e.to)(D:e.to<2):Flat (iL f e):=by
 obtain⟨u,z,_⟩:=h.tag t;obtain⟨a,b,_⟩:=gI u z;obtain⟨c,d,_⟩:=gI (k:=e.to) h0 (by omega);unfold iL Flat;split
 ·split;·intro x s;simp at s;subst s;decide
  ·intro x s;simp at s;rcases s with rfl|rfl|rfl;·exact⟨a,b⟩
   ·decide
   ·decide
 ·intro x s;simp at s;subst s;exact⟨c,d⟩
theorem mn (f:Int){r:Rec}(h0:0≤r.top)(u:r.top≤r.J)(t:r.J<10):Flat (fr f r):=by
 obtain⟨a,b,_⟩:=gI (k:=r.top) h0 (by omega);obtain⟨c,d,_⟩:=gI (k:=r.J) (by omega) t;unfold fr Flat;split
 ·intro x s;simp at s;rcases s with rfl|rfl|rfl|rfl;·exact⟨a,b⟩
  ·decide
  ·exact⟨c,d⟩
  ·decide
 ·intro x s;simp at s;rcases s with rfl|rfl;·exact⟨a,b⟩
  ·decide
theorem pI {f:Int}{M:St}(s:dX f M):∀(n:Nat) (e:Edge) (l:Int) (v:List UInt8) (d:Nat),At f M e l n→dr (bA f M n e++v) (d+1)=(bA f M n e).length+dr v (d+1):=by
 intro n;induction n with
 |zero=>intro e l v d h;obtain⟨m,hm⟩:=h.a8 s;omega
 |succ n u=>
  intro e l v d h;rcases h.cases s with⟨h0,t⟩|⟨r,E,_,_,N,_,J,O,z,_,I,D⟩
  ·rw[iT h0 t,kO (oC s h h0 t)]
  ·rw[iU E,eu,kO (pg s h)];unfold dF
   rw[List.cons_append,dr,ai rfl,eu,kO (mn f J N z),eu,u _ _ _ _ I,List.cons_append,dr,ag (by decide),ag (by decide),eu,u _ _ _ _ D,
    List.cons_append,dr,ag (by decide),ai rfl]
   simp only[List.nil_append,fW,eN,List.length_nil];omega
theorem yo {f:Int}{M:St}(t:dX f M){n:Nat}{r:Rec}(I:0≤r.top)(J:r.top≤r.J)(u:r.J<10)(D:At f M r.lo (r.J+1) n)(z:At f M r.hi (r.J+1) n)(v:List UInt8) :
  ∃s,dF f M n r++v=40::s∧(40::s).take (1+dr s 1)=dF f M n r:=by
 refine⟨fr f r++(bA f M n r.lo++32::(bA f M n r.hi++[41]))++v,rfl,?_⟩
 have hs:dr (fr f r++(bA f M n r.lo++32::(bA f M n r.hi++[41]))++v) 1=(fr f r++(bA f M n r.lo++32::(bA f M n r.hi++[41]))).length:=by
  rw[eu,kO (mn f I J u),eu,pI t _ _ _ _ _ D,List.cons_append,dr,ag (by decide),ag (by decide),eu,pI t _ _ _ _ _ z,
    List.cons_append,dr,ag (by decide),ai rfl,yn]
  simp only[fW,eN,List.length_nil];omega
 have E:1+(fr f r++(bA f M n r.lo++32::(bA f M n r.hi++[41]))).length=(dF f M n r).length:=by unfold dF;rw[eN];omega
 rw[hs,E]
 show(dF f M n r++v).take _=_
 rw[List.take_left]
def dC (M:St):Nat→Edge→List Int
 |0,_=>[]
 |n+1,e=>if e.to<2 then []else e.to::(dC M n (aS (look M.cs e.to)).lo++dC M n (aS (look M.cs e.to)).hi)
theorem ql {f:Int}{M:St}(s:dX f M):∀(n m:Nat) (e:Edge) (l l':Int),At f M e l n→At f M e l' m→bA f M n e=bA f M m e:=by
 intro n;induction n with
 |zero=>intro m e l l' h _;obtain⟨q,O⟩:=h.a8 s;omega
 |succ n D=>
  intro m e l l' h h';obtain⟨m,rfl⟩:=h'.a8 s;rcases h.cases s with⟨h0,u⟩|⟨r,t,_,_,_,_,_,_,_,_,J,E⟩
  ·rw[iT h0 u,iT h0 u]
  ·rcases h'.cases s with⟨h0,u⟩|⟨s,z,_,_,_,_,_,_,_,_,N,I⟩
   ·have:=(cC t).1;omega
   ·rw[t]at z;cases z;rw[iU t,iU t];unfold dF;rw[D m _ _ _ J N,D m _ _ _ E I]
def eY (f:Int)(M:St)(id:Int):List UInt8:=match look M.cs id with|some r=>dF f M 11 r|none=>[]
theorem wz {f:Int}{M:St}(s:dX f M){n:Nat}{id:Int}{r:Rec}(z:look M.cs id=some r)(u:At f M r.lo (r.J+1) n)(t:At f M r.hi (r.J+1) n)(D:0≤r.J):dF f M n r=eY f M id:=by
 have D:=s.n9;unfold eY;rw[z];unfold dF;dsimp only;rw[ql s n 11 _ _ _ u ⟨u.lead,u.ok,by omega⟩,ql s n 11 _ _ _ t ⟨t.lead,t.ok,by omega⟩]
theorem xB {f:Int}{M:St}(s:dX f M):∀(n:Nat) (e:Edge) (l:Int) (v:List UInt8) (out:List (List UInt8)),At f M e l n→ps (bA f M n e++v) out=ps v (((dC M n e).map (eY f M)).foldl fT out):=by
 intro n;induction n with
 |zero=>intro e l v out h;obtain⟨m,hm⟩:=h.a8 s;omega
 |succ n J=>
  intro e l v out h;rcases h.cases s with⟨h0,u⟩|⟨r,t,_,_,O,_,N,W,I,_,D,z⟩
  ·rw[iT h0 u,mA (oC s h h0 u)];unfold dC;rw[ai u];rfl
  ·have T:aS (look M.cs e.to)=r:=(by rw[t];rfl);rw[iU t,eu,mA (pg s h)];obtain⟨Q,E,U⟩:=yo s N O I D z v
   have V:Q=fr f r++(bA f M n r.lo++32::(bA f M n r.hi++[41]))++v:=by
    have:dF f M n r++v=40::(fr f r++(bA f M n r.lo++32::(bA f M n r.hi++[41]))++v):=rfl;rw[this]at E;exact(List.cons.inj E).2.symm
   rw[E];show ps Q _=_;rw[ai rfl,U,V,eu,mA (mn f N O I),eu,J _ _ _ _ D];show ps (bA f M n r.hi++[41]++v) _=_;rw[eu,J _ _ _ _ z];show ps v _=ps v _;rw[wz s t D z (by omega)];rw[show dC M (n+1) e=if e.to<2 then []else e.to::(dC M n (aS (look M.cs e.to)).lo++dC M n (aS (look M.cs e.to)).hi)from rfl,ag (show¬e.to<2 by have:=(cC t).1;omega),T];simp only[List.map_cons,jB,List.foldl_cons,List.foldl_append];rfl
theorem bC {a b:UInt8}{s v:List UInt8}(h:a::s=b::v):a=b∧s=v:=List.cons.inj h
theorem km {f:Int}{M:St}{e e':Edge}{l l':Int}{n E:Nat}(s:dX f M)(h:At f M e l n)(h':At f M e' l' E)(t:e.to=e'.to)(N:f=5→e.to≠0→dB e.tag=dB e'.tag):e=e':=by
 obtain⟨u,z,D,_⟩:=h.tag s;obtain⟨E,I,J,_⟩:=h'.tag s
 have:e.tag=e'.tag:=by
  by_cases s:f=5∧e.to≠0;·exact ie u z E I (N s.1 s.2)
  ·have u:f≠5∨e.to=0:=by
    by_cases z:f=5;·right;exact Classical.byContradiction fun E=>s ⟨z,E⟩
    ·exact .inl z
   rw[D u,J (by rw[←t];exact u)]
 cases e;cases e';simp only at t this;rw[t,this]
theorem py {f:Int}{r s:Rec}(t:r.ad=f)(u:s.ad=f)(z:r.top=s.top)(D:r.J=s.J)(E:r.lo=s.lo)(I:r.hi=s.hi):r=s:=by
 cases r;cases s;simp only at t u z D E I;rw[t,u,z,D,E,I]
theorem p' {f:Int}{M:St}(z:dX f M):∀(n D:Nat) (e e':Edge) (l l':Int) (x I:List UInt8),At f M e l n→At f M e' l' D→x.head?≠some 64→I.head?≠some 64→bA f M n e++x=bA f M D e'++I→e=e'∧x=I:=by
 intro n;induction n with
 |zero=>intro D e e' l l' x I h;obtain⟨m,hm⟩:=h.a8 z;omega
 |succ n ah=>
  intro D e e' l l' x I h h' ab ad s;obtain⟨D,rfl⟩:=h'.a8 z;obtain⟨ax,ay,a0,_⟩:=h.tag z;obtain⟨a0,a1,b1,_⟩:=h'.tag z;have b1:=gI ax ay;have ax:=gI a0 a1;have Z:∀{k:Nat} {r:Rec} {y:List UInt8},∃U,dF f M k r++y=40::U:=fun {k r y}=>⟨_,rfl⟩;rcases h.cases z with⟨h0,ax⟩|⟨r,X,a9,_,ay,_,al,av,a2,a7,bc,ba⟩
  ·rw[iT h0 ax]at s;rcases h'.cases z with⟨O,W⟩|⟨E,T,_⟩
   ·rw[iT O W]at s;unfold iL at s;by_cases t:f=5
    ·rw[ai t,ai t]at s;by_cases J:e.to=0
     ·by_cases V:e'.to=0
      ·rw[ai J,ai V]at s;obtain⟨_,q⟩:=bC s;exact⟨km z h h' (by omega) (fun _ ax=>absurd J ax),q⟩
      ·rw[ai J,ag V]at s;obtain⟨_,q⟩:=bC s;exact absurd (by rw[show x=64::(49::I)from q];rfl) ab
     ·by_cases V:e'.to=0
      ·rw[ag J,ai V]at s;obtain⟨_,q⟩:=bC s;exact absurd (by rw[show I=64::(49::x)from q.symm];rfl) ad
      ·rw[ag J,ag V]at s;obtain⟨u,q⟩:=bC s;obtain⟨_,q⟩:=bC q;obtain⟨_,q⟩:=bC q;exact⟨km z h h' (by omega) (fun _ _=>u),q⟩
    ·rw[ag t,ag t]at s;obtain⟨u,q⟩:=bC s;exact⟨km z h h' (ie h0 (by omega) O (by omega) u) (fun Q=>absurd Q t),q⟩
   ·rw[iU T,eu]at s;obtain⟨U,Y⟩:=Z (k:=D) (r:=E) (y:=I);rw[Y]at s;unfold iL iP at s;by_cases t:f=5
    ·rw[ai t,ai t]at s;by_cases J:e.to=0
     ·rw[ai J]at s;obtain⟨_,q⟩:=bC s;exact absurd (by rw[show x=64::(40::U)from q];rfl) ab
     ·rw[ag J]at s;obtain⟨_,q⟩:=bC s;obtain⟨_,q⟩:=bC q;obtain⟨q,_⟩:=bC q;exact absurd q (by decide)
    ·rw[ag t,ag t]at s;obtain⟨u,_⟩:=bC s;exact absurd u (gI h0 (by omega)).1
  ·have V:=(cC X).1;rw[iU X,eu]at s;rcases h'.cases z with⟨O,W⟩|⟨E,T,a',_,V,_,am,aw,a3,a8,bd,bb⟩
   ·rw[iT O W]at s;obtain⟨U,Y⟩:=Z (k:=n) (r:=r) (y:=x);rw[Y]at s;unfold iL iP at s;by_cases t:f=5
    ·rw[ai t,ai t]at s;by_cases J:e'.to=0
     ·rw[ai J]at s;obtain⟨_,q⟩:=bC s;exact absurd (by rw[show I=64::(40::U)from q.symm];rfl) ad
     ·rw[ag J]at s;obtain⟨_,q⟩:=bC s;obtain⟨_,q⟩:=bC q;obtain⟨q,_⟩:=bC q;exact absurd q (by decide)
    ·rw[ag t,ag t]at s;obtain⟨u,_⟩:=bC s;exact absurd u.symm (gI O (by omega)).1
   ·have J:=(cC T).1;rw[iU T,eu]at s
    have bh:(f=5→dB e.tag=dB e'.tag)∧dF f M n r++x=dF f M D E++I:=by
     unfold iP at s;by_cases t:f=5
     ·rw[ai t,ai t]at s;obtain⟨u,q⟩:=bC s;obtain⟨_,q⟩:=bC q;exact⟨fun _=>u,q⟩
     ·rw[ag t,ag t]at s;exact⟨fun Q=>absurd Q t,s⟩
    obtain⟨bn,s⟩:=bh;unfold dF at s;simp only[List.cons_append,eu,List.nil_append]at s;obtain⟨_,s⟩:=bC s
    have be:r.top=E.top∧r.J=E.J∧bA f M n r.lo++32::(bA f M n r.hi++41::x)=bA f M D E.lo++32::(bA f M D E.hi++41::I):=by
     unfold fr at s;by_cases N:f=3∨f=4
     ·rw[ai N,ai N]at s;obtain⟨u,q⟩:=bC s;obtain⟨_,q⟩:=bC q;obtain⟨b0,q⟩:=bC q;obtain⟨_,q⟩:=bC q;exact⟨ie al av am aw u,ie (by omega) a2 (by omega) a3 b0,q⟩
     ·rw[ag N,ag N]at s;obtain⟨u,q⟩:=bC s;obtain⟨_,q⟩:=bC q;have bi:=ie al av am aw u;have t:r.top=r.J:=(by rcases a7 with c|c;exact c;exact absurd c N);have t:E.top=E.J:=(by rcases a8 with c|c;exact c;exact absurd c N);exact⟨bi,by omega,q⟩
    obtain⟨bv,bw,s⟩:=be;obtain⟨a4,s⟩:=ah D r.lo E.lo _ _ _ _ bc bd (by simp) (by simp) s;obtain⟨_,s⟩:=bC s;obtain⟨a5,s⟩:=ah D r.hi E.hi _ _ _ _ ba bb (by simp) (by simp) s;obtain⟨_,bt⟩:=bC s;have a6:=py a9 a' bv bw a4 a5;subst a6;exact⟨km z h h' (z.wf.b5 _ _ _ X T) (fun Q _=>bn Q),bt⟩
theorem zt {f:Int}{M:St}(z:dX f M){i j:Int}{r t:Rec}(hi:look M.cs i=some r)(E:look M.cs j=some t)(J:r.ad=f)(N:t.ad=f)(a4:0≤r.top)(a5:0≤t.top)(h:eY f M i=eY f M j):i=j:=by
 have O:=z.n9
 have mk:∀{id:Int} {q:Rec},look M.cs id=some q→q.ad=f→0≤q.top→0≤q.top∧q.top<10∧q.top≤q.J∧q.J<10∧(q.top=q.J∨f=3∨f=4)∧At f M q.lo (q.J+1) 11∧At f M q.hi (q.J+1) 11:=fun {id q} O a0 h0=>by
  have g:=z.wf.b4 O;have Q:=z.b7 _ _ O;have ad:=g.tb;have O:=g.bn;subst a0;refine⟨h0,by omega,ad,by omega,?_,⟨g.lo,Q.1,by omega⟩,⟨g.hi,Q.2,by omega⟩⟩;rcases g.chain with D|D;·exact .inl D
  ·unfold fF at D;simp only[dL,beq_iff_eq]at D;exact .inr D
 obtain⟨T,V,D,X,ah,aw,am⟩:=mk hi J a4;obtain⟨U,W,D,Y,al,ax,av⟩:=mk E N a5;unfold eY at h;rw[hi,E]at h;dsimp only at h;unfold dF at h;obtain⟨_,s⟩:=bC h
 have ay:r.top=t.top∧r.J=t.J∧bA f M 11 r.lo++32::(bA f M 11 r.hi++[41])=bA f M 11 t.lo++32::(bA f M 11 t.hi++[41]):=by
  unfold fr at s;by_cases u:f=3∨f=4
  ·rw[ai u,ai u]at s;obtain⟨I,q⟩:=bC s;obtain⟨_,q⟩:=bC q;obtain⟨a6,q⟩:=bC q;obtain⟨_,q⟩:=bC q;exact⟨ie T V U W I,ie (by omega) X (by omega) Y a6,q⟩
  ·rw[ag u,ag u]at s;obtain⟨I,q⟩:=bC s;obtain⟨_,q⟩:=bC q;have a1:=ie T V U W I;have D:r.top=r.J:=(by rcases ah with c|c;exact c;exact absurd c u);have D:t.top=t.J:=(by rcases al with c|c;exact c;exact absurd c u);exact⟨a1,by omega,q⟩
 obtain⟨a2,a3,s⟩:=ay;obtain⟨Z,s⟩:=p' z 11 11 r.lo t.lo _ _ _ _ aw ax (by simp) (by simp) s;obtain⟨_,s⟩:=bC s;obtain⟨u,_⟩:=p' z 11 11 r.hi t.hi _ _ _ _ am av (by decide) (by decide) s;have ab:=py J N a2 a3 Z u;subst ab;exact z.wf.b5 _ _ _ hi E
theorem ud {f:Int}{M:St}(N:dX f M):∀(n:Nat) (e:Edge) (l:Int),At f M e l n→(∀x,x∈dC M n e↔Reaches M.cs [e.to] x)∧∀x∈dC M n e,∃r,look M.cs x=some r∧r.ad=f∧0≤r.top:=by
 intro n;induction n with
 |zero=>intro e l h;obtain⟨m,hm⟩:=h.a8 N;omega
 |succ n T=>
  intro e l h;rcases h.cases N with⟨h0,N⟩|⟨r,z,U,_,_,_,ab,_,_,_,X,W⟩
  ·have he:dC M (n+1) e=[]:=by
    show(if e.to<2 then []else _)=_;rw[ai N]
   rw[he];refine⟨fun x=>⟨fun s=>by simp at s,fun s=>?_⟩,fun x s=>by simp at s⟩
   exact(s (fun _=>False) (fun y u D=>by
    rw[cZ]at u;subst u;cases N:look M.cs e.to with
    |none=>exact D N
    |some q=>have:=(cC N).1;omega) (fun _ _ t _=>t.elim)).elim
  ·have V:aS (look M.cs e.to)=r:=by rw[z];rfl
   have he:dC M (n+1) e=e.to::(dC M n r.lo++dC M n r.hi):=by
    show(if e.to<2 then []else _)=_;rw[ag (show¬e.to<2 by have:=(cC z).1;omega),V]
   obtain⟨E,Y⟩:=T _ _ X;obtain⟨I,Z⟩:=T _ _ W;have Q:Reaches M.cs [e.to] e.to:=Reaches.root (by simp) (by rw[z];simp);have O:=Reaches.closed M.cs [e.to] e.to r Q z;rw[he];refine⟨fun x=>⟨fun s=>?_,fun s=>?_⟩,fun x s=>?_⟩
   ·rcases List.mem_cons.1 s with rfl|s;·exact Q
    ·rcases List.mem_append.1 s with s|s;·exact((E x).1 s).below (fun y u D=>by rw[cZ]at u;subst u;exact O.1 D)
     ·exact((I x).1 s).below (fun y u D=>by rw[cZ]at u;subst u;exact O.2 D)
   ·refine s (fun y=>y∈e.to::(dC M n r.lo++dC M n r.hi)) (fun y u _=>by rw[cZ]at u;subst u;exact List.mem_cons_self) ?_;intro id q hid J;rcases List.mem_cons.1 hid with rfl|hid
    ·rw[z]at J;cases J;exact⟨fun t=>ew _ (fY _ ((E _).2 (Reaches.root (by simp) t))),fun t=>ew _ (List.mem_append_right _ ((I _).2 (Reaches.root (by simp) t)))⟩
    ·rcases List.mem_append.1 hid with hid|hid
     ·have u:=Reaches.closed M.cs [r.lo.to] id q ((E id).1 hid) J;exact⟨fun t=>ew _ (fY _ ((E _).2 (u.1 t))),fun t=>ew _ (fY _ ((E _).2 (u.2 t)))⟩
     ·have u:=Reaches.closed M.cs [r.hi.to] id q ((I id).1 hid) J;exact⟨fun t=>ew _ (List.mem_append_right _ ((I _).2 (u.1 t))),fun t=>ew _ (List.mem_append_right _ ((I _).2 (u.2 t)))⟩
   ·rcases List.mem_cons.1 s with rfl|s;·exact⟨r,z,U,ab⟩
    ·rcases List.mem_append.1 s with s|s;·exact Y x s
     ·exact Z x s
theorem tM (t:List (List UInt8)):∀out:List (List UInt8),out.Nodup→(t.foldl fT out).Nodup∧∀y,y∈t.foldl fT out↔y∈out∨y∈t:=by
 induction t with
 |nil=>intro out h;exact⟨h,fun y=>by simp⟩
 |cons x t E=>
  intro out h
  have z:(fT out x).Nodup∧∀y,y∈fT out x↔y∈out∨y=x:=by
   unfold fT;split
   ·rename_i hm;exact⟨h,fun y=>⟨.inl,fun s=>by rcases s with s|rfl;exact s;exact hm⟩⟩
   ·rename_i hm;refine⟨List.nodup_append.2 ⟨h,by simp,fun a D b u e=>?_⟩,fun y=>by simp⟩;rw[cZ]at u;subst u;subst e;exact hm D
  obtain⟨t,u⟩:=E _ z.1;refine⟨t,fun y=>?_⟩;rw[List.foldl_cons,u,z.2,List.mem_cons];exact⟨fun s=>by rcases s with(s|s)|s;exact .inl s;exact .inr (.inl s);exact .inr (.inr s),fun s=>by rcases s with s|s|s;exact .inl (.inl s);exact .inl (.inr s);exact .inr s⟩
theorem oT:∀{a b:List (List UInt8)},a.Nodup→(∀x,x∈a→x∈b)→a.length≤b.length:=by
 intro a;induction a with
 |nil=>intro b _ _;exact Nat.zero_le _
 |cons x a z=>
  intro b u hs;have t:x∈b:=hs x (List.mem_cons_self);have s:=List.nodup_cons.1 u
  have u:=z (b:=b.erase x) s.2 (fun y u=>by
   have z:y≠x:=fun e=>s.1 (e ▸ u)
   exact(List.mem_erase_of_ne z).2 (hs y (ew _ u)))
  have s:=List.length_erase_of_mem t;have s:0<b.length:=List.length_pos_of_mem t;rw[eN];omega
theorem wB {g:Int→List UInt8}:∀{a:List Int},a.Nodup→(∀x y,x∈a→y∈a→g x=g y→x=y)→(a.map g).Nodup:=by
 intro a;induction a with
 |nil=>intro _ _;exact List.nodup_nil
 |cons x a D=>
  intro z t;have u:=List.nodup_cons.1 z;refine List.nodup_cons.2 ⟨fun hm=>?_,D u.2 (fun y E s z=>t y E (ew _ s) (ew _ z))⟩;obtain⟨y,s,he⟩:=List.mem_map.1 hm;have:=t y x (ew _ s) List.mem_cons_self he;subst this;exact u.1 s
theorem xi {f:Int}{M:St}(z:dX f M)(n:Nat)(e:Edge)(l:Int)(h:At f M e l n):(eW (bW f M n e) (bW f M n e).size).length=(bV M.cs [e.to]).length:=by
 rw[xj];have D:=xB z n e l [] [] h;rw[List.append_nil]at D;rw[show(bW f M n e).data.toList=bA f M n e from rfl,D];show(((dC M n e).map (eY f M)).foldl fT []).length=_;obtain⟨I,J⟩:=tM ((dC M n e).map (eY f M)) [] List.nodup_nil;obtain⟨u,E⟩:=ud z n e l h
 have N:∀x y,x∈bV M.cs [e.to]→y∈bV M.cs [e.to]→eY f M x=eY f M y→x=y:=fun x y s t V=>by
  obtain⟨r,O,Q,T⟩:=E x ((u x).2 (fJ.1 s));obtain⟨W,hs,D,U⟩:=E y ((u y).2 (fJ.1 t));exact zt z O hs Q D T U V
 have g1:=wB (g:=eY f M) (yi (mC M.cs [e.to])) N
 have hm:∀y,y∈((dC M n e).map (eY f M)).foldl fT []↔y∈(bV M.cs [e.to]).map (eY f M):=fun y=>by
  rw[J];simp only[List.not_mem_nil,false_or,List.mem_map];exact⟨fun⟨x,s,he⟩=>⟨x,fJ.2 ((u x).1 s),he⟩,fun⟨x,s,he⟩=>⟨x,(u x).2 (fJ.1 s),he⟩⟩
 have s:=oT I (fun y t=>(hm y).1 t);have u:=oT g1 (fun y t=>(hm y).2 t);rw[j9]at s u;omega
end Go.Proofs.YtafkamlhimkbmaaGreat
