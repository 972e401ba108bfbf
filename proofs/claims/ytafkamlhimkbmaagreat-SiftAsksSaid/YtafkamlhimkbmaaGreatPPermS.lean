/-
  Plainly: how many nodes roots have: the different ones of the terms, form by form; as many are left of a store that is swept.
-/
import Derived.Test.YtafkamlhimkbmaaGreatPSwapU
namespace Go.Proofs.YtafkamlhimkbmaaGreat
set_option maxRecDepth 1000000
set_option maxHeartbeats 8000000
set_option linter.unusedSimpArgs false
set_option linter.unusedVariables false
def js (out:List ByteArray)(x:ByteArray):List ByteArray:=if out.any (fun j=>j.toList==x.toList)then out else out++[x]
theorem qy {x y:ByteArray}(h:x.data.toList=y.data.toList):x=y:=by
 cases x;cases y;exact congrArg ByteArray.mk (Array.toList_inj.1 h)
theorem qg (out:List ByteArray)(x:ByteArray):out.any (fun j=>j.toList==x.toList)=true↔x∈out:=by
 rw[List.any_eq_true];constructor
 ·rintro⟨j,s,q⟩;have j:=eq_of_beq q;rw[ByteArray.toList_eq,ByteArray.toList_eq]at j;rw[←qy j];exact s
 ·intro j;exact⟨x,j,beq_self_eq_true _⟩
def fR (k:Nat)(f:Int):List (Int×List Bool)→List ByteArray→List ByteArray
 |[],met=>met
 |r::rs,met=>fR k f rs (if r.1=f then(fS (fF f k r.2 0) (fF f k r.2 0).size).foldl js met else met)
def pF (k:Nat)(rs:List (Int×List Bool)):Nat→Nat
 |0=>0
 |f+1=>pF k rs f+(fR k ((f+1:Nat):Int) rs []).length
def pE (k:Nat)(rs:List (Int×List Bool)):Nat:=pF k rs 5
theorem uG (out:List ByteArray)(x y:ByteArray):y∈js out x↔y∈out∨y=x:=by
 unfold js;split
 ·rename_i h;rw[qg]at h;exact⟨.inl,fun j=>by rcases j with j|rfl;exact j;exact h⟩
 ·simp
theorem uH {out:List ByteArray}{x:ByteArray}(h:out.Nodup):(js out x).Nodup:=by
 unfold js;split;·exact h
 ·rename_i q;rw[qg]at q;refine List.nodup_append.2 ⟨h,by simp,fun a s b j e=>?_⟩;rw[cF]at j;subst j;subst e;exact q s
theorem uI (xs:List ByteArray):∀out:List ByteArray,out.Nodup→(xs.foldl js out).Nodup∧∀y,y∈xs.foldl js out↔y∈out∨y∈xs:=by
 induction xs with
 |nil=>intro out h;exact⟨h,fun y=>by simp⟩
 |cons x xs t=>
  intro out h;obtain⟨q,s⟩:=t _ (uH (x:=x) h);refine⟨q,fun y=>?_⟩;rw[List.foldl_cons,s,uG,List.mem_cons];exact⟨fun j=>by rcases j with(j|j)|j;exact .inl j;exact .inr (.inl j);exact .inr (.inr j),fun j=>by rcases j with j|j|j;exact .inl (.inl j);exact .inl (.inr j);exact .inr j⟩
theorem zK (k:Nat)(f:Int):∀(rs:List (Int×List Bool)) (met:List ByteArray),met.Nodup→(fR k f rs met).Nodup∧∀y,y∈fR k f rs met↔y∈met∨∃r∈rs,r.1=f∧y∈fS (fF f k r.2 0) (fF f k r.2 0).size:=by
 intro rs;induction rs with
 |nil=>intro met h;exact⟨h,fun y=>by simp[fR]⟩
 |cons r rs I=>
  intro met h;unfold fR;by_cases A:r.1=f
  ·rw[ah A];obtain⟨J,a2⟩:=uI (fS (fF f k r.2 0) (fF f k r.2 0).size) met h;obtain⟨B,E⟩:=I _ J;refine⟨B,fun y=>?_⟩;rw[E,a2];constructor
   ·rintro((q|q)|⟨z,j,s,t⟩);·exact .inl q
    ·exact .inr ⟨r,by simp,A,q⟩
    ·exact .inr ⟨z,by simp[j],s,t⟩
   ·rintro(q|⟨z,j,s,t⟩);·exact .inl (.inl q)
    ·rcases List.mem_cons.1 j with rfl|j;·exact .inl (.inr t)
     ·exact .inr ⟨z,j,s,t⟩
  ·rw[ag A];obtain⟨B,E⟩:=I _ h;refine⟨B,fun y=>?_⟩;rw[E];constructor
   ·rintro(q|⟨z,j,s,t⟩);·exact .inl q
    ·exact .inr ⟨z,by simp[j],s,t⟩
   ·rintro(q|⟨z,j,s,t⟩);·exact .inl q
    ·rcases List.mem_cons.1 j with rfl|j;·exact absurd s A
     ·exact .inr ⟨z,j,s,t⟩
theorem su {t A:Type}{g:t→A}:∀{a:List t},a.Nodup→(∀x y,x∈a→y∈a→g x=g y→x=y)→(a.map g).Nodup:=by
 intro a;induction a with
 |nil=>intro _ _;exact List.nodup_nil
 |cons x a A=>
  intro t q;have s:=List.nodup_cons.1 t;refine List.nodup_cons.2 ⟨fun z=>?_,A s.2 (fun y B j t=>q y B (eE _ j) (eE _ t))⟩;obtain⟨y,j,t⟩:=List.mem_map.1 z;have:=q y x (eE _ j) List.mem_cons_self t;subst this;exact s.1 j
theorem zV:∀{a b:List Int},a.Nodup→(∀x,x∈a→x∈b)→a.length≤b.length:=by
 intro a;induction a with
 |nil=>intro b _ _;exact Nat.zero_le _
 |cons x a z=>
  intro b t q;have s:x∈b:=q x (List.mem_cons_self);have j:=List.nodup_cons.1 t
  have t:=z (b:=b.erase x) j.2 (fun y t=>by
   have z:y≠x:=fun e=>j.1 (e ▸ t)
   exact(List.mem_erase_of_ne z).2 (q y (eE _ t)))
  have j:=List.length_erase_of_mem s;have j:0<b.length:=List.length_pos_of_mem s;rw[dm];omega
theorem sT {cs:List (Option Rec)}{roots:List Int}{id:Int}:Reaches cs roots id↔∃a∈roots,Reaches cs [a] id:=by
 constructor
 ·intro h;refine h (fun x=>∃a∈roots,Reaches cs [a] x) (fun a j s=>⟨a,j,Reaches.root (by simp) s⟩) (fun x r q s=>?_);obtain⟨a,j,t⟩:=q;have z:=Reaches.closed cs [a] x r t s;exact⟨fun s=>⟨a,j,z.1 s⟩,fun s=>⟨a,j,z.2 s⟩⟩
 ·rintro⟨a,j,t⟩;exact t.mono (fun x q=>by rw[cF]at q;rw[q];exact j)
theorem xR (g:Int→Int):∀j:List Int,(∀x∈j,1≤g x∧g x≤5) →
  j.length=(j.filter (fun x=>g x=1)).length+(j.filter (fun x=>g x=2)).length+(j.filter (fun x=>g x=3)).length+(j.filter (fun x=>g x=4)).length+(j.filter (fun x=>g x=5)).length:=by
 intro j
 induction j with
 |nil=>intro _;rfl
 |cons x j z=>
  intro h;have j:=h x (by simp);have q:=z (fun y t=>h y (by simp[t]));have s:g x=1∨g x=2∨g x=3∨g x=4∨g x=5:=by omega
  rw[dm,q];rcases s with e|e|e|e|e<;>simp[List.filter_cons,e]<;>omega
def iF (M:St)(id:Int):Int:=match look M.cs id with|some r=>r.al|none=>0
structure nx (M:St)(k:Nat)(r:Int×List Bool)(e:Edge):Prop where
 al:1≤r.1∧r.1≤5
 ch:At r.1 M e 0 (k+1)
 h4:bR r.1 M (k+1) e=fF r.1 k r.2 0
def ny (M:St)(k:Nat)(rs:List (Int×List Bool))(es:List Edge):Prop:=es.length=rs.length∧∀(i:Nat) (r:Int×List Bool) (e:Edge),rs[i]?=some r→es[i]?=some e→nx M k r e
theorem sX {M:St}{k:Nat}{r:Int×List Bool}{e:Edge}(s:dH r.1 M)(h:nx M k r e)(y:List UInt8):y∈(fS (fF r.1 k r.2 0) (fF r.1 k r.2 0).size).map (fun j=>j.data.toList)↔∃id,Reaches M.cs [e.to] id∧gU r.1 M id=y:=by
 have q:=Ax (fF r.1 k r.2 0) (fF r.1 k r.2 0).data.toList 0 rfl (by simp);rw[show(fS (fF r.1 k r.2 0) 0).map (fun j=>j.data.toList)=[]from rfl]at q;rw[←q,←h.h4];have t:=AP s (k+1) e 0 [] [] h.ch;rw[List.append_nil]at t;rw[show(bR r.1 M (k+1) e).data.toList=bA r.1 M (k+1) e from rfl,t];show y∈(((dW M (k+1) e).map (gU r.1 M)).foldl iC [])↔_;rw[(xT _ [] List.nodup_nil).2 y];simp only[List.not_mem_nil,false_or,List.mem_map];obtain⟨t,-⟩:=oG s (k+1) e 0 h.ch;exact⟨fun⟨x,q,j⟩=>⟨x,(t x).1 q,j⟩,fun⟨x,q,j⟩=>⟨x,(t x).2 q,j⟩⟩
theorem pq {M:St}{k:Nat}{r:Int×List Bool}{e:Edge}(q:dH r.1 M)(h:nx M k r e){id:Int}(s:Reaches M.cs [e.to] id):∃j,look M.cs id=some j∧j.al=r.1∧0≤j.I:=by
 obtain⟨j,t⟩:=oG q (k+1) e 0 h.ch;exact t id ((j id).2 s)
theorem CY {M:St}(E:∀f,dH f M){k:Nat}{rs:List (Int×List Bool)}{es:List Edge}(h:ny M k rs es):(aU M.cs (es.map Edge.to)).length=pE k rs:=by
 obtain⟨be,h⟩:=h
 have any:∀id,id∈aU M.cs (es.map Edge.to)↔∃(i:Nat) (r:Int×List Bool) (e:Edge),rs[i]?=some r∧es[i]?=some e∧Reaches M.cs [e.to] id:=fun id=>by
  rw[gR,sT];constructor
  ·rintro⟨a,av,q⟩;obtain⟨e,N,rfl⟩:=List.mem_map.1 av;obtain⟨i,hi⟩:=List.mem_iff_getElem?.1 N;have a0:=(List.getElem?_eq_some_iff.1 hi).1;exact⟨i,rs[i]'(by omega),e,ar (by omega),hi,q⟩
  ·rintro⟨i,r,e,I,J,q⟩;exact⟨e.to,List.mem_map.2 ⟨e,bB J,rfl⟩,q⟩
 have form:∀id∈aU M.cs (es.map Edge.to),∃s,look M.cs id=some s∧(1≤s.al∧s.al≤5)∧0≤s.I:=fun id hid=>by
  obtain⟨i,r,e,I,J,q⟩:=(any id).1 hid;have z:=h i r e I J;obtain⟨s,t,B,S⟩:=pq (E _) z q;exact⟨s,t,by rw[B];exact z.al,S⟩
 have one:∀f:Int,((aU M.cs (es.map Edge.to)).filter (fun x=>iF M x=f)).length=(fR k f rs []).length:=fun f=>by
  obtain⟨a7,ad⟩:=zK k f rs [] List.nodup_nil
  have a8:(((aU M.cs (es.map Edge.to)).filter (fun x=>iF M x=f)).map (gU f M)).Nodup:=by
   refine su ((mQ (lG M.cs (es.map Edge.to))).filter _) (fun x y T L a4=>?_);obtain⟨a3,Y⟩:=List.mem_filter.1 T;obtain⟨a5,Z⟩:=List.mem_filter.1 L;obtain⟨s,t,-,S⟩:=form x a3;obtain⟨j,ab,-,a6⟩:=form y a5;simp only[iF,t,bC]at Y;simp only[iF,ab,bC]at Z;exact Dy (E f) t ab Y Z S a6 a4
  have a':((fR k f rs []).map (fun j=>j.data.toList)).Nodup:=su a7 (fun x y _ _ e=>qy e)
  have al:∀y,y∈((aU M.cs (es.map Edge.to)).filter (fun x=>iF M x=f)).map (gU f M)↔y∈(fR k f rs []).map (fun j=>j.data.toList):=fun y=>by
   rw[List.mem_map,List.mem_map];constructor
   ·rintro⟨id,hid,rfl⟩;obtain⟨t,B⟩:=List.mem_filter.1 hid;obtain⟨i,r,e,I,J,q⟩:=(any id).1 t;have z:=h i r e I J;obtain⟨s,U,W,bb⟩:=pq (E _) z q;simp only[iF,U,bC]at B;have A:r.1=f:=W.symm.trans B;have a1:=(sX (E _) z (gU f M id)).2 ⟨id,q,by rw[A]⟩;obtain⟨j,O,J⟩:=List.mem_map.1 a1;rw[A]at O;exact⟨j,(ad j).2 (.inr ⟨r,bB I,A,O⟩),J⟩
   ·rintro⟨j,O,rfl⟩;rcases(ad j).1 O with aw|⟨r,q,A,X⟩;·simp at aw
    ·obtain⟨i,hi⟩:=List.mem_iff_getElem?.1 q;have a0:=(List.getElem?_eq_some_iff.1 hi).1;have N:es[i]?=some (es[i]'(by omega)):=ar (by omega);have z:=h i r _ hi N;rw[←A]at X;obtain⟨id,am,bd⟩:=(sX (E _) z j.data.toList).1 (List.mem_map.2 ⟨j,X,rfl⟩);obtain⟨s,U,W,bb⟩:=pq (E _) z am;refine⟨id,List.mem_filter.2 ⟨(any id).2 ⟨i,r,_,hi,N,am⟩,?_⟩,by rw[←A];exact bd⟩;simp only[iF,U,bC];exact W.trans A
  have j:=sr a8 (fun y L=>(al y).1 L);have q:=sr a' (fun y L=>(al y).2 L);rw[fy,fy]at j q;omega
 rw[xR (iF M) _ (fun x T=>by
  obtain⟨s,t,B,-⟩:=form x T;simp only[iF,t]
  exact B),one 1,one 2,one 3,one 4,one 5]
 unfold pE;simp only[pF];show _=0+(fR k 1 rs []).length+(fR k 2 rs []).length+(fR k 3 rs []).length+(fR k 4 rs []).length+(fR k 5 rs []).length;omega
theorem yt (M:St):∀(n:Nat) (e:Edge),(dW M n e).length≤2 ^ n-1:=by
 intro n;induction n with
 |zero=>intro e;simp[dW]
 |succ n j=>
  intro e;have q:1≤2 ^ n:=eG (by decide);have q:2 ^ (n+1)=2 ^ n+2 ^ n:=by rw[dd];omega
  unfold dW;split;·simp
  ·have q:=j (aA (look M.cs e.to)).lo;have q:=j (aA (look M.cs e.to)).hi;simp only[di,dm];omega
theorem Bj {M:St}(z:∀f,dH f M){k:Nat}{rs:List (Int×List Bool)}{es:List Edge}(h:ny M k rs es):(aU M.cs (es.map Edge.to)).length≤es.length*(2 ^ (k+1)-1):=by
 have E:∀x,x∈aU M.cs (es.map Edge.to)→x∈es.flatMap (dW M (k+1)):=fun x q=>by
  rw[gR,sT]at q;obtain⟨a,A,B⟩:=q;obtain⟨e,j,rfl⟩:=List.mem_map.1 A;obtain⟨i,hi⟩:=List.mem_iff_getElem?.1 j;have q:=(List.getElem?_eq_some_iff.1 hi).1;have q:=h.2 i (rs[i]'(by have:=h.1;omega)) e (ar (by have:=h.1;omega)) hi;exact List.mem_flatMap.2 ⟨e,j,((oG (z _) (k+1) e 0 q.ch).1 x).2 B⟩
 have s:=zV (mQ (lG M.cs (es.map Edge.to))) E
 have t:∀l:List Edge,(l.flatMap (dW M (k+1))).length≤l.length*(2 ^ (k+1)-1):=by
  intro l;induction l with
  |nil=>simp
  |cons e l j=>
   have:=yt M (k+1) e;rw[List.flatMap_cons,di,dm,Nat.add_mul];omega
 exact eF s (t es)
structure gM (ps qs:List Int)(i:Nat)(ss:List Nat):Prop where
 c7:∀j,j<i→(bu ps ss)[j]?=qs[j]?
 b0:∀s∈ss,s+1<ps.length
 bx:ss.length≤i*ps.length
structure StepsIn (ps qs:List Int)(i p:Nat)(x:Int)(ss:List Nat):Prop where
 c7:∀j,j<i→(bu ps ss)[j]?=qs[j]?
 b0:∀s∈ss,s+1<ps.length
 bx:ss.length+p≤i*ps.length+ps.length
 dk:(bu ps ss)[p]?=some x
 low:i≤p
theorem StepsIn.lt {ps qs:List Int}{i p:Nat}{x:Int}{ss:List Nat}(h:StepsIn ps qs i p x ss):p<ps.length:=by
 have:=(List.getElem?_eq_some_iff.1 h.dk).1;rwa[gg]at this
theorem gM.start (ps qs:List Int):gM ps qs 0 []:=⟨fun s q=>by omega,(fun q j=>by cases j),by simp⟩
theorem StepsIn.next {ps qs:List Int}{i p:Nat}{x:Int}{ss:List Nat}(h:StepsIn ps qs i (p+1) x ss)(t:i≤p):StepsIn ps qs i p x (ss++[p]):=by
 have j:=h.lt;have q:p+1<(bu ps ss).length:=by rw[gg];exact j
 refine⟨fun A s=>?_,fun B z=>?_,?_,?_,t⟩
 ·rw[kF,iK q,ag (by omega),ag (by omega)];exact h.c7 A s
 ·rcases List.mem_append.1 z with g|g;·exact h.b0 B g
  ·simp at g;subst g;exact j
 ·have:=h.bx;rw[di,List.length_singleton];omega
 ·rw[kF,iK q,ah rfl];exact h.dk
theorem StepsIn.out {ps qs:List Int}{i:Nat}{x:Int}{ss:List Nat}(h:StepsIn ps qs i i x ss)(q:qs[i]?=some x):gM ps qs (i+1) ss:=by
 refine⟨fun j s=>?_,h.b0,?_⟩
 ·by_cases e:j=i
  ·subst e;rw[h.dk,q]
  ·exact h.c7 j (by omega)
 ·have:=h.bx;rw[Nat.add_mul];omega
theorem gM.low {ps qs:List Int}{i k:Nat}{x:Int}{ss:List Nat}(h:gM ps qs i ss)(s:aF qs=true)(t:qs[i]?=some x)(j:(bu ps ss)[k]?=some x):StepsIn ps qs i k x ss:=by
 have q:=(List.getElem?_eq_some_iff.1 j).1;rw[gg]at q;refine⟨h.c7,h.b0,by have:=h.bx;omega,j,?_⟩;apply Classical.byContradiction;intro q;have e:=h.c7 k (by omega);rw[j]at e;have:=ks (dD.1 s).2.2 t e.symm;omega
theorem gM.has {ps qs:List Int}{i:Nat}{x:Int}{ss:List Nat}(h:gM ps qs i ss)(j:aF ps=true)(t:aF qs=true)(q:ps.length=qs.length)(z:qs[i]?=some x):x∈bu ps ss:=by
 have q:=tj ss ps h.b0 j;have s:=(dD.1 t).2.1 x (bB z);have j:=(mH.1 q).2;rw[gg]at j;exact j.symm.subset (gQ.2 ⟨s.1,by omega⟩)
theorem gM.done {ps qs:List Int}{ss:List Nat}(h:gM ps qs ps.length ss)(j:ps.length=qs.length):bu ps ss=qs:=by
 apply List.ext_getElem?;intro j;by_cases q:j<ps.length;·exact h.c7 j q
 ·rw[cO (by rw[gg];omega),cO (by omega)]
open Go.RowKit
theorem yx (g cap:Nat)(ps:List Int)(x:Int)(w:World)(h:bS w g ps)(S:ps.length≤1048576)(L:x∈ps) :
  Calls Tryz.prog 168 #[.slice (some ⟨g,0,none⟩) ps.length cap,.int .i64 x] w fun e w'=>(∃k:Nat,e=.returned (.int .i64 (k:Int))∧ps[k]?=some x)∧w=w':=by
 obtain⟨q,t⟩:∃q,q=ps.length:=⟨_,rfl⟩
 rw[←t]at S ⊢
 have H:=aa h
 have A:=aa t
 have N:=aa L
 clear h t L
 go_enter Tryz.func168,Tryz.ntmps168
 go_wp2_with fail
 go_loopg [5,8] q (fun gk t t wr=>∃d:Nat,t=.int .i64 (d:Int)∧d+gk=q∧(∀j,j<d→ps[j]?≠some x)∧w=wr)
 case atStart=>exact⟨0,rfl,by omega,fun j s=>by omega,rfl⟩
 case round=>
  obtain⟨d,rfl,U,J,rfl⟩:=hrel;have B:=aa J;clear J;by_cases T:d<q
  ·obtain⟨y,q⟩:∃b,ps[d]?=some b:=⟨_,ar (by rw[←A.out];exact T)⟩;have t:=H.out.cell q;have E:=aa q;clear q;by_cases I:x=y
   ·subst I;go_wp2_with fail;go_ret;exact⟨⟨d,rfl,E.out⟩,rfl⟩
   ·go_wp2_with fail;go_roundg (gk-1)
    case rel=>
     refine⟨d+1,by simp,by omega,fun j s z=>?_,rfl⟩;by_cases O:j=d
     ·subst O;rw[E.out]at z;exact I (Option.some.inj z).symm
     ·exact B.out j (by omega) z
    case measure=>omega
  ·exfalso;obtain⟨j,s⟩:=List.mem_iff_getElem?.1 N.out;have:=(List.getElem?_eq_some_iff.1 s).1;exact B.out j (by have:=A.out;omega) s
theorem Ap {w:World}{lo j:Nat}{e:TypeId}{size:Nat}{v:Value}{n:Nat}{xs:List Value}(t:j≤lo)(h:w.ownsRow lo e size v n xs):w.ownsRow j e size v n xs:=by
 refine⟨h.1,?_⟩;rcases h.2 with z|⟨g,cap,j,q,s,rest⟩;·exact .inl z
 ·exact .inr ⟨g,cap,j,q,eF t s,rest⟩
theorem Da (ad a2:Option Addr)(a4 cap2:Nat)(ps qs:List Int)(w:World)(a6:bH w ad ps)(a8:bH w a2 qs)(N:aF ps=true)(bp:aF qs=true)(am:ps.length=qs.length) :
  Calls Tryz.prog 105 #[.slice ad ps.length a4,.slice a2 qs.length cap2] w fun e w'=>∃(ss:List Nat) (Z:Option Addr) (al:Nat),e=.returned (.tuple #[.slice Z ss.length al,.bool true]) ∧
   w'.ownsRow w.heap.size 3 1 (.slice Z ss.length al) ss.length (ss.map (fun t:Nat=>Value.int .i64 (t:Int)))∧bu ps ss=qs∧(∀t∈ss,t+1<ps.length)∧ss.length≤ps.length*ps.length∧ae w w':=by
 have a7:=(dD.1 N).1
 have bb:=fun s (Z:ae w s)=>pd ad a4 ps s (a6.ad Z) (by omega)
 have bd:=fun s (Z:ae w s)=>pd a2 cap2 qs s (a8.ad Z) (by omega)
 have a':=fun s (Z:ae w s)=>n7 ad a4 ps s (a6.ad Z) (by omega)
 obtain⟨eg,hi,ec,ed,ee⟩:=info_parts jB
 obtain⟨J,E⟩:∃J,J=ps.length:=⟨_,rfl⟩
 have Z:=fun(g cap:Nat) (ss:List Nat) (x:Int) (s:World) (ad:bS s g (bu ps ss)) (X:x∈bu ps ss)=>by
  have:=yx g cap (bu ps ss) x s ad (by rw[gg];omega) X;rw[gg,←E]at this;exact this
 rw[N,←E]at bb
 rw[bp,←am,←E]at bd
 rw[←E]at a'
 rw[←am,←E]
 rw[←E]at a7
 have cx:=aa bb
 have cy:=aa bd
 have cd:=aa a'
 have ci:=aa Z
 have z:=aa E
 have a0:=aa am
 have cv:=aa N
 have bv:=aa bp
 have cc:=aa a8
 clear bb bd a' Z E am N bp a6 a8
 go_enter Tryz.func105,Tryz.ntmps105
 go_wp2_with fail
 refine(cx.out _ kp).mono ?_
 rintro e w1 ⟨rfl,rfl⟩
 go_wp2_with fail
 refine(cy.out _ kp).mono ?_
 rintro e E ⟨rfl,rfl⟩
 go_wp2_with fail
 refine(cd.out _ kp).mono ?_
 rintro e U ⟨da,db,rfl,E,bi⟩
 have bw:=aa E
 clear E
 go_wp2_with fail
 go_loopg [7,8,9,10,30] J (fun gk bq E E cb E wr=>∃(d:Nat) (ss:List Nat) (O:Option Addr) (S:Nat),E=.int .i64 (d:Int)∧bq=.slice O ss.length S∧d+gk=J∧gM ps qs d ss∧kS w.heap.size wr da (bu ps ss)∧wr.ownsRow U.heap.size 3 1 (.slice O ss.length S) ss.length (ss.map (fun t:Nat=>Value.int .i64 (t:Int)))∧ae w wr∧U.heap.size≤wr.heap.size)
 case atStart=>exact⟨0,[],none,0,rfl,rfl,by omega,gM.start ps qs,bw.out,World.ownsRow_nil _ _ _ _,bi,aE _⟩
 case round=>
  obtain⟨d,ss,O,S,rfl,rfl,dl,ad,Z,E,A,ea⟩:=hrel;have Y:=aa ad;have c0:=aa Z;have br:=aa E;clear ad Z E;by_cases d5:d<J
  ·obtain⟨x,X⟩:∃b,qs[d]?=some b:=⟨_,ar (by rw[←a0.out,←z.out];exact d5)⟩;obtain⟨b,off,rfl,b6⟩:=cc.out d x X;have E:=A.cell b6;have aw:=Y.out.has cv.out bv.out a0.out X;have bx:=aa X;obtain⟨g,rfl,b8,bg⟩:=c0.out (fun e=>by rw[e]at aw;cases aw)
   have E:g<U.heap.size:=by
    obtain⟨bD,c6,_,d9⟩:=bw.out (fun e=>by rw[e]at z;have:=z.out;simp at this;omega);cases c6;exact d9.lt
   have E:=ci.out g db ss x wr bg aw;have cg:=aa bg;have cj:=aa E;clear E aw b6 X bg;go_wp2_with fail;refine cj.out.mono ?_;rintro e E ⟨⟨k,rfl,b9⟩,rfl⟩;have E:=Y.out.low bv.out bx.out b9;have ca:=E.lt;have X:=E.low;have ch:=aa E;clear b9 E;rw[←z.out]at ca;obtain⟨a5,dB⟩:∃a5,a5=gk:=⟨_,rfl⟩;rw[←dB]at dl;go_wp2_with fail;go_loopg [7,10] (k-d) (fun X bq cb E=>∃(p:Nat) (q:List Nat) (lb:Option Addr) (T:Nat),cb=.int .i64 ((p:Int)-1)∧bq=.slice lb q.length T∧p=d+X∧p<J∧StepsIn ps qs d p x q∧bS E g (bu ps q)∧E.ownsRow U.heap.size 3 1 (.slice lb q.length T) q.length (q.map (fun t:Nat=>Value.int .i64 (t:Int)))∧ae w E∧U.heap.size≤E.heap.size)
   case atStart=>exact⟨k,ss,O,S,rfl,rfl,by omega,ca,ch.out,cg.out,br.out,A,ea⟩
   case round=>
    obtain⟨p,q,lb,T,rfl,rfl,N,d7,E,Z,X,B,eb⟩:=hrel;have W:=aa E;have I:=aa Z;have a1:=aa X;clear E Z X;have bt:=aa N;clear N;by_cases E:d<p
    ·obtain⟨j,rfl⟩:∃j,p=j+1:=⟨p-1,by omega⟩;rw[show((j+1:Nat):Int)-1=(j:Int)from by omega];have d0:d≤j:=(by omega);have d8:j+1<(bu ps q).length:=(by rw[gg,←z.out];exact d7);obtain⟨y,E⟩:∃b,(bu ps q)[j]?=some b:=⟨_,ar (by omega)⟩;have N:=W.out.dk;have c3:=I.out.cell E;have c4:=I.out.cell N;have c2:=aa E;have c9:=I.out.frozen j;have c':=I.out.frozen (j+1);have X:g<wr.heap.size:=I.out.lt;clear E N;have be:af (fun E=>E=g) wr ((wr.setCell ⟨g,j,none⟩ (.int .i64 x)).setCell ⟨g,j+1,none⟩ (.int .i64 y)):=af.setCell (F:=fun E=>E=g) (p:=⟨g,j+1,none⟩) (af.setCell (F:=fun E=>E=g) (p:=⟨g,j,none⟩) (af.refl _ _) (.inl rfl) _) (.inl rfl) _
     have b0:=be.bp (fun k A e=>by
      rcases a1.out.2 with⟨L,_⟩|⟨bD,al,c5,L,dk,_⟩
      ·rw[L]at A;simp[Value.ownBlock]at A
      ·rw[L]at A;simp[Value.ownBlock]at A;omega) a1.out
     have b2:bS ((wr.setCell ⟨g,j,none⟩ (.int .i64 x)).setCell ⟨g,j+1,none⟩ (.int .i64 y)) g (bu ps (q++[j])):=by
      rw[kF];unfold aK;have c7:(bu ps q).getD (j+1) 0=x:=(by rw[dC,W.out.dk];rfl);have c8:(bu ps q).getD j 0=y:=(by rw[dC,c2.out];rfl);rw[c7,c8];exact(I.out.set j x (by omega)).set (j+1) y (by simpa using d8)
     have ab:=W.out.bx;have dj:ps.length*ps.length≤16*16:=iX (by rw[←z.out];exact a7) (by rw[←z.out];exact a7)
     have ds:d*ps.length+ps.length≤ps.length*ps.length:=by
      have:=Nat.mul_le_mul_right ps.length (show d+1≤ps.length by rw[←z.out];omega);rwa[Nat.add_mul,Nat.one_mul]at this
     have d3:q.length+1≤256:=(by omega);have em:q.length+1≤maxLen:=(by unfold maxLen;omega);have ep:(q.length+1)*8≤140737488355328:=(by omega);have cl:=aa b0;have cD:=aa b2;have c1:=aa be;clear b0 b2 be ab dj ds d3;have E:=bi.size;go_upto_region 11 with fail
     go_cut [] (fun E=>ae ((wr.setCell ⟨g,j,none⟩ (.int .i64 x)).setCell ⟨g,j+1,none⟩ (.int .i64 y)) E)
     case first=>
      go_region;all_goals go_wp2_with fail
      all_goals go_meet
      all_goals(exact kp)
     case rest=>
      obtain⟨a3,b4⟩:∃s,s=wc:=⟨_,rfl⟩;rw[←b4]at hcut ⊢;clear b4;have b1:=(hcut.av (fun _=>False)).bp (fun _ _ h=>h) cl.out;have b3:=cD.out.ad hcut;have bf:=c1.out.bg (hcut.av _);have s:=bf.size;have d1:ae w a3:=B.new bf (fun k e=>by subst e;exact b8);have cE:=aa b3;have bs:=aa b1;clear b1 b3 bf hcut c3 c4 c9 c'
      go_wp2_with (first
       |(at_builtin;refine wpList_append_own _ rfl _ _ 22 rfl U.heap.size 3 eg (.int .i64 0) 1 8 Tryz.underlying22 hi ec ed ee rfl (by decide) (.slice lb q.length T) q.length (q.map (fun t:Nat=>Value.int .i64 (t:Int))) rfl (bs.out.alloc _) ⟨a3.heap.size,0,none⟩ 1 1 [.int .i64 (j:Int)] rfl rfl (eU _ _ _ _ rfl) (by simp[Value.oneCell']) (by exact em) (by exact ep) (by simp;omega) ?_;intro s er bn b7 _)
       |fail)
      obtain⟨ek,el,rfl,-⟩:=dv bn;have av:af (fun k=>(Value.slice lb q.length T).ownBlock=some k) a3 er:=af.b8 (by repeat (first|exact af.refl _ _|refine af.alloc ?_ _|refine af.drew ?_)) b7 (fun k A=>.inl A)
      have b5:∀k,(Value.slice lb q.length T).ownBlock=some k→U.heap.size≤k:=fun k B=>by
       rcases bs.out.2 with⟨L,_⟩|⟨bD,al,c5,L,dk,_⟩
       ·rw[L]at B;simp[Value.ownBlock]at B
       ·rw[L]at B;simp[Value.ownBlock]at B;omega
      have s:=av.size;have s:=cE.out.a4 av (fun e=>by have:=b5 _ e;omega);have d2:=d1.new av (fun k B=>by have:=b5 _ B;omega);have cS:=aa s;have cp:=aa bn;clear bn b7 av s;go_wp2_with fail;go_roundg (gk-1)
      case rel=>exact⟨j,q++[j],ek,el,rfl,by simp,by have:=bt.out;omega,by omega,W.out.next d0,cS.out,by have:=cp.out;simpa using this,d2,by omega⟩
      case measure=>have:=bt.out;omega
    ·have d6:p=d:=(by have:=W.out.low;omega);subst d6;have j:¬(p:Int)≤(p:Int)-1:=(by omega);have j:=W.out.out bx.out;have co:=aa j;clear j;go_wp2_with fail;go_roundg (a5-1)
     case rel=>exact⟨p+1,q,lb,T,by simp,rfl,by omega,co.out,fun _=>⟨g,rfl,b8,I.out⟩,a1.out,B,eb⟩
     case measure=>omega
  ·have dr:d=J:=(by omega);subst dr
   have s:bu ps ss=qs:=by
    have j:=Y.out;rw[z.out]at j;exact j.done a0.out
   have ab:=Y.out.bx;rw[←z.out]at ab;have j:=br.out;have B:(Value.slice O ss.length S).ownBlock=none∨True:=.inr trivial;have q:wr.ownsRow w.heap.size 3 1 (.slice O ss.length S) ss.length (ss.map (fun t:Nat=>Value.int .i64 (t:Int))):=Ap bi.size j;have cn:=aa q;have cf:=aa s;have ce:=aa ab;clear s ab j B q;go_wp2_with fail;go_ret2;exact⟨ss,O,S,rfl,cn.out,cf.out,fun t j=>by rw[z.out];exact Y.out.b0 t j,by have:=ce.out;exact this,A⟩
def eu (a b:Nat):List Nat:=if a<b then(List.range (b-a)).map (fun i=>a+i)else(List.range (a-b)).map (fun i=>a-1-i)
theorem sG {w:World}{s:Nat}{e:TypeId}{size:Nat}{v:Value}{n:Nat}{xs:List Value}(h:w.ownsRow s e size v n xs){k:Nat}(j:v.ownBlock=some k):s≤k:=by
 rcases h.2 with⟨q,_⟩|⟨z,s,t,q,A,_⟩
 ·rw[q]at j;simp[Value.ownBlock]at j
 ·rw[q]at j;simp[Value.ownBlock]at j;omega
theorem rH {M:St}{f:Int}{e:Edge}{l:Int}(t:1≤f∧f≤5)(q:M.leads f e l=true)(j:cu M f e l):dX M f e l=true:=by
 have s:f=1∨f=2∨f=3∨f=4∨f=5:=by omega
 rcases s with rfl|rfl|rfl|rfl|rfl;·exact q
 ·exact q
 ·exact j (.inl rfl)
 ·exact j (.inr (.inl rfl))
 ·exact j (.inr (.inr rfl))
theorem xu {ps:List Int}(J:aF ps=true){j q:Nat}(E:j<2 ^ ps.length)(I:q<2 ^ ps.length)(h:bV j ps=bV q ps):j=q:=by
 have key:∀(s:List Int),bV j s=bV q s→∀v∈s,ax (j:Int) v=ax (q:Int) v:=by
  intro s;induction s with
  |nil=>intro _ v t;cases t
  |cons u s N=>
   intro B v t;have O:=jZ j s;have O:=jZ q s;change vb j u*2 ^ s.length+bV j s=vb q u*2 ^ s.length+bV q s at B;have s:=kM j u;have s:=kM q u;have z:vb j u=0∨vb j u=1:=(by omega);have A:vb q u=0∨vb q u=1:=by omega
   have e:vb j u=vb q u:=by
    rcases z with z|z<;>rcases A with A|A<;>rw[z,A]at B ⊢<;>omega
   rw[e]at B;rcases List.mem_cons.1 t with rfl|t
   ·unfold vb at e;cases L:ax (j:Int) v<;>cases j:ax (q:Int) v<;>rw[L,j]at e<;>first|rfl|(exfalso;revert e;decide)
   ·exact N (by omega) v t
 apply Nat.eq_of_testBit_eq;intro j;by_cases q:j<ps.length
 ·have q:(j:Int)∈ps:=(mH.1 J).2.symm.subset (gQ.2 ⟨by omega,by omega⟩);have:=key ps h _ q;rwa[jX,jX]at this
 ·rw[Nat.testBit_lt_two_pow (bI E (aW (by decide) (by omega))),Nat.testBit_lt_two_pow (bI I (aW (by decide) (by omega)))]
theorem xw {ps:List Int}(E:aF ps=true){y:Nat}(q:y<2 ^ ps.length):∃j,j<2 ^ ps.length∧bV j ps=y:=by
 have A:((List.range (2 ^ ps.length)).map (fun j=>(bV j ps:Int))).Nodup:=by
  rw[List.nodup_iff_pairwise_ne,List.pairwise_map];refine(List.nodup_iff_pairwise_ne.1 List.nodup_range).imp_of_mem ?_;intro a b q s B t;rw[List.mem_range]at q s;exact B (xu E q s (by omega))
 have I:∀x∈(List.range (2 ^ ps.length)).map (fun j=>(bV j ps:Int)),x∈fc (2 ^ ps.length):=fun x J=>by
  obtain⟨j,_,rfl⟩:=List.mem_map.1 J;have:=jZ j ps;exact gQ.2 ⟨by omega,by omega⟩
 have q:=mI _ (fc (2 ^ ps.length)) A I (by rw[ku,fy,List.length_range];exact aE _);have z:(y:Int)∈(List.range (2 ^ ps.length)).map (fun j=>(bV j ps:Int)):=q.subset (gQ.2 ⟨by omega,by omega⟩);obtain⟨j,q,t⟩:=List.mem_map.1 z;exact⟨j,List.mem_range.1 q,by omega⟩
theorem tq (n:Int)(w:World):Calls Tryz.prog 159 #[.int .i64 n] w fun e w'=>e=.returned (.bool (decide (0≤n∧n≤16)))∧w=w':=by
 by_cases j:0≤n
 ·by_cases q:n≤16
  ·rw[bc (show 0≤n∧n≤16 from⟨j,q⟩)];go_enter Tryz.func159,Tryz.ntmps159;go_wp2;go_ret;exact⟨rfl,rfl⟩
  ·rw[aY (show¬(0≤n∧n≤16)from fun h=>q h.2)];go_enter Tryz.func159,Tryz.ntmps159;go_wp2;go_ret;exact⟨rfl,rfl⟩
 ·rw[aY (show¬(0≤n∧n≤16)from fun h=>j h.1)];go_enter Tryz.func159,Tryz.ntmps159;go_wp2;go_ret;exact⟨rfl,rfl⟩
theorem tz (n:Nat)(j:n≤16)(w:World):Calls Tryz.prog 160 #[.int .i64 (n:Int)] w fun e w'=>e=.returned (.int .i64 ((max 1 (2 ^ n / 64):Nat):Int))∧w=w':=by
 have h:n=0∨n=1∨n=2∨n=3∨n=4∨n=5∨n=6∨n=7∨n=8∨n=9∨n=10∨n=11∨n=12∨n=13∨n=14∨n=15∨n=16:=by omega
 rcases h with rfl|rfl|rfl|rfl|rfl|rfl|rfl|rfl|rfl|rfl|rfl|rfl|rfl|rfl|rfl|rfl|rfl;all_goals go_enter Tryz.func160,Tryz.ntmps160
 all_goals go_wp2
 all_goals go_ret
 all_goals exact⟨rfl,rfl⟩
theorem and_one_u64 (j:Int)(s:0≤j)(q:j<18446744073709551616):bits BinOp.and IntKind.u64 j 1=j%2:=by
 obtain⟨a,rfl⟩:∃a:Nat,j=(a:Int):=⟨j.toNat,by omega⟩;have s:a &&& 1=a%2:=Nat.and_one_is_mod a
 have q:(BitVec.ofInt 64 (a:Int)).toNat=a:=by
  rw[BitVec.ofInt_natCast,BitVec.toNat_ofNat];exact dT (by omega)
 have j:(BitVec.ofInt 64 ((1:Nat):Int)).toNat=1:=by
  rw[BitVec.ofInt_natCast,BitVec.toNat_ofNat]
 show IntKind.u64.wrap ((BitVec.ofInt 64 (a:Int) &&& BitVec.ofInt 64 ((1:Nat):Int)).toNat:Int)=_;rw[BitVec.toNat_and,q,j,s];have:((a%2:Nat):Int)%2 ^ 64=((a%2:Nat):Int):=Int.emod_eq_of_lt (by omega) (by omega);simp only[IntKind.wrap,IntKind.bits,IntKind.signed,this];simp
def jc (n:Nat):Nat:=if 6≤n then 64 else 2 ^ n
theorem Cm (n:Nat)(j:n≤16)(w:World):Calls Tryz.prog 161 #[.int .i64 (n:Int)] w fun e w'=>e=.returned (.int .u64 (2 ^ jc n-1))∧w=w':=by
 have h:n=0∨n=1∨n=2∨n=3∨n=4∨n=5∨n=6∨n=7∨n=8∨n=9∨n=10∨n=11∨n=12∨n=13∨n=14∨n=15∨n=16:=by omega
 rcases h with rfl|rfl|rfl|rfl|rfl|rfl|rfl|rfl|rfl|rfl|rfl|rfl|rfl|rfl|rfl|rfl|rfl;all_goals go_enter Tryz.func161,Tryz.ntmps161
 all_goals go_wp2
 all_goals go_ret
 all_goals exact⟨rfl,rfl⟩
theorem uS {a k:Nat}(s:a<2 ^ 64)(j:k≤64):a &&& (2 ^ 64-(2 ^ k-1+1))=0↔a<2 ^ k:=by
 have q:0<2 ^ k:=eG (by decide);have q:2 ^ k≤2 ^ 64:=aW (by decide) j;have q:2 ^ k-1<2 ^ 64:=by omega
 have j:∀i,(a &&& (2 ^ 64-(2 ^ k-1+1))).testBit i=(a.testBit i&&(decide (i<64)&&!decide (i<k))):=fun i=>by
  rw[Nat.testBit_and,Nat.testBit_two_pow_sub_succ q,Nat.testBit_two_pow_sub_one]
 constructor
 ·intro h;apply Nat.lt_pow_two_of_testBit;intro i hi;by_cases q:i<64
  ·have:=j i;rw[h,Nat.zero_testBit,bc q,aY (show¬i<k by omega)]at this;simpa using this.symm
  ·exact Nat.testBit_lt_two_pow (bI s (aW (by decide) (by omega)))
 ·intro h;apply Nat.eq_of_testBit_eq;intro i;rw[j i,Nat.zero_testBit];by_cases hi:i<k;·rw[bc hi];simp
  ·rw[Nat.testBit_lt_two_pow (bI h (aW (by decide) (by omega)))];simp
theorem uR {x:Int}(k:Nat)(N:0≤x)(O:x<2 ^ 64)(t:k≤64):(bits BinOp.andNot IntKind.u64 x (2 ^ k-1)==0)=decide (x<2 ^ k):=by
 obtain⟨a,rfl⟩:∃a:Nat,x=(a:Int):=⟨x.toNat,by omega⟩;have E:0<2 ^ k:=eG (by decide);have I:2 ^ k≤2 ^ 64:=aW (by decide) t;have z:(2:Int) ^ k=((2 ^ k:Nat):Int):=by push_cast;rfl
 have s:a<2 ^ 64:=by
  have A:(2:Nat) ^ 64=18446744073709551616:=rfl;have N:(2:Int) ^ 64=18446744073709551616:=rfl;omega
 have q:=uS s t;rw[z];obtain⟨j,J⟩:∃j,j=2 ^ k:=⟨_,rfl⟩;rw[←J]at E I q ⊢;have B:((j:Int)-1)=((j-1:Nat):Int):=by omega
 have A:(2:Nat) ^ 64=18446744073709551616:=rfl
 have t:∀c:Nat,c<2 ^ 64→(BitVec.ofInt 64 (c:Int)).toNat=c:=fun c z=>by
  rw[BitVec.ofInt_natCast,BitVec.toNat_ofNat];exact dT z
 have L:bits BinOp.andNot IntKind.u64 (a:Int) ((j:Int)-1)=((a &&& (2 ^ 64-(j-1+1)):Nat):Int):=by
  rw[B];show IntKind.u64.wrap ((BitVec.ofInt 64 (a:Int) &&& ~~~(BitVec.ofInt 64 ((j-1:Nat):Int))).toNat:Int)=_;rw[BitVec.toNat_and,BitVec.toNat_not,t a s,t (j-1) (by omega),show 2 ^ 64-1-(j-1)=2 ^ 64-(j-1+1) by omega];have s:a &&& (2 ^ 64-(j-1+1))≤a:=Nat.and_le_left;have:((a &&& (2 ^ 64-(j-1+1)):Nat):Int)%2 ^ 64=((a &&& (2 ^ 64-(j-1+1)):Nat):Int):=Int.emod_eq_of_lt (by omega) (by omega);simp only[IntKind.wrap,IntKind.bits,IntKind.signed,this];simp
 rw[L];by_cases h:a<j
 ·rw[q.2 h,bc (show(a:Int)<(j:Int) by omega)];rfl
 ·have s:¬(a &&& (2 ^ 64-(j-1+1)))=0:=fun e=>h (q.1 e);rw[aY (show¬(a:Int)<(j:Int) by omega)];simp only[beq_eq_false_iff_ne,ne_eq];omega
theorem tt (n:Int)(z:Option Addr)(len cap:Nat)(ws:List Int)(w:World)(a0:ws.length=len)(be:len≤1048576)(Y:iB w z ws) :
  Calls Tryz.prog 97 #[.agg #[.int .i64 n,.slice z len cap]] w fun e w'=>e=.returned (.bool (dP n ws))∧ae w w':=by
 have E:(w.alloc (.cells #[.int .i64 n,.slice z len cap] 105)).cell? ⟨w.heap.size,0,none⟩=some (.int .i64 n):=by simp[go_sem]
 have I:(w.alloc (.cells #[.int .i64 n,.slice z len cap] 105)).cell? ⟨w.heap.size,1,none⟩=some (.slice z len cap):=by simp[go_sem]
 have L:ae w (w.alloc (.cells #[.int .i64 n,.slice z len cap] 105)):=(ae.refl _).alloc _
 have A:=fun(O:World)=>tq n O
 by_cases S:0≤n∧n≤16
 ·rw[bc S]at A;obtain⟨j,rfl⟩:∃j:Nat,n=(j:Int):=⟨n.toNat,by omega⟩;have U:=fun(O:World)=>tz j (by omega) O;have ab:=fun(O:World)=>Cm j (by omega) O;obtain⟨wd,W⟩:∃wd,wd=max 1 (2 ^ j / 64):=⟨_,rfl⟩;rw[←W]at U;have O:1≤wd:=by omega
  obtain⟨q,s⟩:∃q,q=w.alloc (.cells #[.int .i64 (j:Int),.slice z len cap] 105):=⟨_,rfl⟩;rw[←s]at E I L;by_cases X:len=wd
  ·obtain⟨x,al⟩:∃b,ws[0]?=some b:=⟨_,ar (by omega)⟩;obtain⟨⟨bd,a6⟩,b,off,rfl,av⟩:=(Y.ad L) 0 x al;rw[gA]at av
   have bb:jc j≤64:=by
    unfold jc;split;·exact aE _
    ·have:2 ^ j≤2 ^ 6:=aW (by decide) (by omega);have O:(2:Nat) ^ 6=64:=rfl;omega
   have am:=uR (jc j) bd a6 bb
   have ad:dP (j:Int) ws=decide (x<2 ^ jc j):=by
    have a':ws.getD 0 0=x:=(by rw[dC,al];rfl);unfold dP jc;rw[bc S,cN,a0,←W,bc X,a',Bool.true_and,Bool.true_and];by_cases O:6≤j;·rw[ah O,bc (show 6≤(j:Int)∨_ from .inl (by omega)),bc a6]
    ·rw[ag O];congr 1
     simp only[eq_iff_iff];exact⟨fun J=>by rcases J with J|J;omega;exact J,fun J=>.inr J⟩
   obtain⟨J,aw⟩:∃J:Int,J=2 ^ jc j-1:=⟨_,rfl⟩;rw[←aw]at ab am;obtain⟨r,a1⟩:∃r,r=decide (x<2 ^ jc j):=⟨_,rfl⟩;rw[←a1]at am ad;rw[ad];have N:=aa A;have Z:=aa U;have a7:=aa ab;have B:=aa s;clear A U ab s Y al ad aw a1 W E I;subst X;have E:q.cell? ⟨w.heap.size,0,none⟩=some (.int .i64 (j:Int)):=(by rw[B.out];simp[go_sem]);have I:q.cell? ⟨w.heap.size,1,none⟩=some (.slice (some ⟨b,off,none⟩) len cap):=(by rw[B.out];simp[go_sem]);go_enter Tryz.func97,Tryz.ntmps97;go_wp2_with fail;rw[←B.out];have a3:=an.cell E;have a4:=an.cell I;have J:=an.cell av;refine cU (q) (by kernel_rfl) (by kernel_rfl) kp ?_;(repeat (go_big_quiet_step ((first|(go_at_call 159;with_reducible refine Calls.c' (N.out _))|(go_at_call 160;with_reducible refine Calls.c' (Z.out _))|(go_at_call 161;with_reducible refine Calls.c' (a7.out _))))));refine wpQuiet_nil ?_;rintro a5 ⟨⟨_,T⟩,rfl⟩;try dsimp only
   go_wp2_with fail;go_ret;exact⟨rfl,L.trans T⟩
  ·have t:dP (j:Int) ws=false:=by
    cases t:dP (j:Int) ws with
    |false=>rfl
    |true=>
     have:=(iJ.1 t).2.1;rw[cN,←W,a0]at this;exact absurd this X
   rw[t];have a8:¬(len:Int)=(wd:Int):=(by omega);have j:((len:Int)==(wd:Int))=false:=(by simp[a8]);have j:(len==wd)=false:=(by simp[X]);have N:=aa A;have Z:=aa U;have B:=aa s;clear A U s Y t W;go_enter Tryz.func97,Tryz.ntmps97;go_wp2_with fail;rw[←B.out];have a3:=an.cell E;have a4:=an.cell I;refine cU (q) (by kernel_rfl) (by kernel_rfl) kp ?_;(repeat (go_big_quiet_step ((first|(go_at_call 159;with_reducible refine Calls.c' (N.out _))|(go_at_call 160;with_reducible refine Calls.c' (Z.out _))))));refine wpQuiet_nil ?_;rintro a5 ⟨⟨_,T⟩,rfl⟩;try dsimp only
   go_wp2_with fail;go_ret;exact⟨rfl,L.trans T⟩
 ·rw[aY S]at A
  have t:dP n ws=false:=by
   cases t:dP n ws with
   |false=>rfl
   |true=>exact absurd (iJ.1 t).1 S
  obtain⟨q,s⟩:∃q,q=w.alloc (.cells #[.int .i64 n,.slice z len cap] 105):=⟨_,rfl⟩;rw[←s]at E I L;rw[t];have N:=aa A;have B:=aa s;clear A s Y t S;go_enter Tryz.func97,Tryz.ntmps97;go_wp2_with fail;rw[←B.out];have a3:=an.cell E;have a4:=an.cell I;refine cU (q) (by kernel_rfl) (by kernel_rfl) kp ?_;(repeat (go_big_quiet_step ((first|(go_at_call 159;with_reducible refine Calls.c' (N.out _))))));refine wpQuiet_nil ?_;rintro a5 ⟨⟨_,T⟩,rfl⟩;try dsimp only
  go_wp2_with fail;go_ret;exact⟨rfl,L.trans T⟩
theorem Cn (n x:Nat)(E:Option Addr)(len cap:Nat)(ws:List Int)(w:World)(t:ws.length=len)(U:len≤1048576)(s:iB w E ws)(z:dP (n:Int) ws=true)(J:x<2 ^ n) :
  Calls Tryz.prog 162 #[.agg #[.int .i64 (n:Int),.slice E len cap],.int .i64 (x:Int)] w fun e w'=>e=.returned (.bool (hasB ws x))∧ae w w':=by
 obtain⟨E,q,O⟩:=iJ.1 z
 rw[cN,t]at q
 have E:2 ^ n≤2 ^ 16:=aW (by decide) (by omega)
 have E:(2:Nat) ^ 16=65536:=rfl
 have j:2 ^ n≤64∨∃k,2 ^ n=64*k:=by
  by_cases E:n≤6
  ·left;have:2 ^ n≤2 ^ 6:=aW (by decide) E;exact this
  ·right;refine⟨2 ^ (n-6),?_⟩;rw[show(64:Nat)=2 ^ 6 from rfl,←Nat.pow_add];congr 1
   omega
 have E:x / 64<len:=by
  rcases j with j|⟨k,j⟩;·omega
  ·rw[j]at J q;have:64*k / 64=k:=(by omega);omega
 obtain⟨v,B⟩:∃b,ws[x / 64]?=some b:=⟨_,ar (by omega)⟩
 obtain⟨⟨L,X⟩,b,off,rfl,S⟩:=s (x / 64) v B
 have A:=fun(j:World) (E:ae w j)=>tt (n:Int) (some ⟨b,off,none⟩) len cap ws j t U (s.ad E)
 rw[z]at A
 have I:hasB ws x=(v / 2 ^ (x%64)%2==1):=by
  unfold hasB;rw[dC,B];rfl
 have j:0≤v / 2 ^ (x%64):=Int.ediv_nonneg L (Int.le_of_lt (Int.pow_pos (by decide)))
 have E:v / 2 ^ (x%64)≤v:=Int.ediv_le_self _ L
 have hand:=and_one_u64 (v / 2 ^ (x%64)) j (by omega)
 rw[I]
 have j:(x:Int)<2 ^ n:=by exact_mod_cast J
 have j:=pV (x:=(n:Int)) (by omega)
 rw[cN]at j
 have N:=aa A
 have j:(0:Int)≤(x:Int):=by omega
 have j:x≤65536:=by omega
 clear A s z q O B I t
 go_enter Tryz.func162,Tryz.ntmps162
 go_wp2_with fail
 refine(N.out _ kp).mono ?_
 rintro e w1 ⟨rfl,j⟩
 have q:=j.U (a:=⟨w.heap.size,0,none⟩) (v:=.int .i64 (n:Int))
 have q:=j.U (a:=⟨w.heap.size,1,none⟩) (v:=.slice (some ⟨b,off,none⟩) len cap)
 have T:=(((ae.refl w).alloc (.cells #[.int .i64 (n:Int),.slice (some ⟨b,off,none⟩) len cap] 105)).trans j).cell S
 have W:=j.size
 simp only[ai]at W
 have j:b<w1.heap.size:=aB T
 have j:w.heap.size<w1.heap.size:=by omega
 go_wp2_with fail
 go_ret
 exact⟨rfl,kp⟩
theorem sC (a:Option Addr)(cap:Nat)(ps:List Int)(w:World)(h:bH w a ps)(t:ps.length≤16)(i:Nat)(x:Int)(j:ps[i]?=some x) :
  Calls Tryz.prog 176 #[.slice a ps.length cap,.int .i64 (i:Int)] w fun e w'=>e=.returned (.int .i64 x)∧w=w':=by
 obtain⟨b,off,rfl,q⟩:=h i x j
 have hi:=(List.getElem?_eq_some_iff.1 j).1
 obtain⟨q,s⟩:∃q,q=ps.length:=⟨_,rfl⟩
 rw[←s]at t hi ⊢
 clear h j s
 go_enter Tryz.func176,Tryz.ntmps176
 go_wp2
 go_ret
 exact⟨rfl,rfl⟩
theorem sD {F:Nat→Prop}{w:World}{z:Nat}{ps:List Int}(h:ba F w z ps)(i:Nat)(x:Int)(t:ps[i]?=some x) :
  Calls Tryz.prog 164 #[.pointer (some ⟨z,0,none⟩),.int .i64 (i:Int)] w fun e w'=>e=.returned (.int .i64 x)∧w=w':=by
 obtain⟨z,B,I,E,A,q,hi⟩:=h.cells
 have j:=aa (sC z B ps w hi h.le i x t)
 obtain⟨n,s⟩:∃n,n=ps.length:=⟨_,rfl⟩
 rw[←s]at A q j
 clear h q hi s t
 go_enter Tryz.func164,Tryz.ntmps164
 go_wp2_with (first|(go_at_call 176;refine j.out.mono ?_;rintro e w1 ⟨rfl,rfl⟩)|fail)
 go_ret
 exact⟨rfl,rfl⟩
theorem Al {F:Nat→Prop}{w:World}{q:Nat}{ps:List Int}(h:ba F w q ps)(i v:Nat)(I:ps[i]?=some (v:Int)) :
  Calls Tryz.prog 108 #[.pointer (some ⟨q,0,none⟩),.int .i64 (v:Int)] w fun e w'=>e=.returned (.int .i64 (i:Int))∧w=w':=by
 have B:=h.le
 obtain⟨⟨T,U,L,J,qs,z,j,O,A,S⟩,_⟩:=h
 have N:w.cell? ⟨q,1,none⟩=some (.slice (some ⟨L,0,none⟩) ps.length J):=by rw[cell_of_row w q 1 _ _ _ z];rfl
 have t:=j.2 i v I
 rw[cN]at t
 have s:=aa (sC (some ⟨L,0,none⟩) J qs w A.e0 (by rw[j.1];exact B) v (i:Int) t)
 rw[j.1]at s
 obtain⟨n,E⟩:∃n,n=ps.length:=⟨_,rfl⟩
 rw[←E]at N s
 clear z j O A S E I t B
 go_enter Tryz.func108,Tryz.ntmps108
 go_wp2_with (first|(go_at_call 176;refine s.out.mono ?_;rintro e w1 ⟨rfl,rfl⟩)|fail)
 go_ret
 exact⟨rfl,rfl⟩
theorem C6 (room:Int)(a:Option Addr)(cap:Nat)(ps:List Int)(w:World)(h:bH w a ps)(z:aF ps=true)(S:0≤room)(T:room≤1048576) :
  Calls Tryz.prog 44 #[.int .i64 room,.slice a ps.length cap] w fun e w'=>∃sb j F Fo,e=.returned (.tuple #[.pointer (some ⟨sb,0,none⟩),.pointer (some ⟨j,0,none⟩),.bool true])∧ae w w'∧ak F w' sb (St.new (ps.length:Int) room)∧ba Fo w' j ps∧(∀k,F k→¬Fo k)∧(∀k,F k→w.heap.size≤k)∧(∀k,Fo k→w.heap.size≤k):=by
 have W:=(dD.1 z).1
 have s:=fun(q:World) (U:ae w q)=>pc a cap ps q (h.ad U) (by omega)
 have hS:=fun(q:World)=>tM (ps.length:Int) room q (by omega) (by omega) S T
 simp only[z,if_true]at s
 obtain⟨q,E⟩:∃q,q=ps.length:=⟨_,rfl⟩
 rw[←E]at s hS W ⊢
 have L:=aa s
 have O:=aa hS
 clear s hS h z E
 go_enter Tryz.func44,Tryz.ntmps44
 go_wp2_with (first|(go_at_call 68;refine(O.out _).mono ?_;rintro e w1 ⟨sb,F,rfl,t,hF,I⟩)|fail)
 refine(L.out _ t).mono ?_
 rintro e q ⟨J,j,Fo,rfl,q,B⟩
 have A:=aa I
 have N:=aa q
 clear I q
 go_wp2_with fail
 refine aq (v:=.tuple #[.pointer (some ⟨sb,0,none⟩),.pointer (some ⟨j,0,none⟩),.bool true]) (by simp[results,Tryz.results44,go_sem]) rfl ⟨sb,j,F,Fo,rfl,t.trans J,A.out.ad J,N.out,fun k q s=>?_,hF,fun k q=>?_⟩
 ·have:=A.out.lt k q;have:=B k s;omega
 ·have:=B k q;have:=t.size;omega
theorem qx {F Fo:Nat→Prop}{w:World}{sb q:Nat}{M:St}{ps:List Int}(h:ak F w sb M)(z:ba Fo w q ps)(I:M.n=(ps.length:Int))(f:Int)(E:aR f=true) :
  Calls Tryz.prog 96 #[.pointer (some ⟨sb,0,none⟩),.pointer (some ⟨q,0,none⟩),.int .u8 f] w fun e w'=>e=.returned (.int .u8 0)∧ae w w':=by
 have j:=aa (fun(q:World) (s:ae w q)=>dw (h.ad s))
 have A:=aa (fun(q:World) (s:ae w q)=>lC (z.ad s))
 have t:=jg f
 rw[E]at t
 have J:=aa t
 rw[I]at j
 have L:=z.le
 obtain⟨q,B⟩:∃q,q=ps.length:=⟨_,rfl⟩
 rw[←B]at j A L
 clear h z I t E B
 go_enter Tryz.func96,Tryz.ntmps96
 go_wp2_with (first|(go_at_call 48;refine(j.out _ kp).mono ?_;rintro e w1 ⟨rfl,rfl⟩)|(go_at_call 99;refine(A.out _ kp).mono ?_;rintro e w1 ⟨rfl,rfl⟩)|(go_at_call 100;refine(J.out _).mono ?_;rintro e w1 ⟨rfl,rfl⟩)|fail)
 go_ret
 exact⟨rfl,kp⟩
structure fU (F Fo:Nat→Prop)(w:World)(sb ob bb:Nat)(f:Int)(n:Nat)(ps ws:List Int)(aw:Option Addr)(len cap:Nat):Prop where
 c0:w.cell? ⟨bb,0,none⟩=some (.pointer (some ⟨sb,0,none⟩))
 c1:w.cell? ⟨bb,1,none⟩=some (.pointer (some ⟨ob,0,none⟩))
 c2:w.cell? ⟨bb,2,none⟩=some (.int .u8 f)
 c3:w.cell? ⟨bb,3,none⟩=some (.int .i64 (n:Int))
 c4:w.cell? ⟨bb,4,none⟩=some (.slice aw len cap)
 e4:¬F bb
 fl:iB w aw ws
 nw:∀b off,aw=some ⟨b,off,none⟩→¬F b
 b7:ba Fo w ob ps
 hI:∀k,Fo k→¬F k
theorem fU.lt {F Fo:Nat→Prop}{w:World}{sb s j:Nat}{f:Int}{n:Nat}{ps ws:List Int}{q:Option Addr}{len cap:Nat}(h:fU F Fo w sb s j f n ps ws q len cap):j<w.heap.size:=aB h.c0
theorem fU.step {F F' Fo:Nat→Prop}{w w':World}{sb O L:Nat}{f:Int}{n:Nat}{ps ws:List Int}{J:Option Addr}{len cap:Nat}(h:fU F Fo w sb O L f n ps ws J len cap)(j:af F w w')(B:∀I,F' I→F I∨w.heap.size≤I)(T:0<ws.length):fU F' Fo w' sb O L f n ps ws J len cap:=by
 have I:=h.lt;refine⟨j.cellAt h.e4 h.c0,j.cellAt h.e4 h.c1,j.cellAt h.e4 h.c2,j.cellAt h.e4 h.c3,j.cellAt h.e4 h.c4,fun t=>?_,fun i x E=>?_,fun b off N t=>?_,h.b7.a4 j (fun k z I=>h.hI k z I),fun k z t=>?_⟩
 ·rcases B _ t with q|q;·exact h.e4 q
  ·omega
 ·obtain⟨r,b,off,s,A⟩:=h.fl i x E;exact⟨r,b,off,s,j.cellAt (h.nw b off s) A⟩
 ·obtain⟨x,E⟩:∃x,ws[0]?=some x:=⟨_,ar T⟩;obtain⟨r,j,I,s,A⟩:=h.fl 0 x E;rw[N]at s;cases s;have S:=aB A;dsimp only at S;rcases B _ t with q|q;·exact h.nw b off N q
  ·omega
 ·rcases B _ t with q|q;·exact h.hI k z q
  ·have:=h.b7.lt k z;omega
theorem fU.ad {F Fo:Nat→Prop}{w w':World}{sb s q:Nat}{f:Int}{n:Nat}{ps ws:List Int}{j:Option Addr}{len cap:Nat}(h:fU F Fo w sb s q f n ps ws j len cap)(t:ae w w')(z:0<ws.length):fU F Fo w' sb s q f n ps ws j len cap:=h.step (t.av F) (fun _ h=>.inl h) z
def eM (f:Int)(M:St)(has:Nat→Bool)(j:List Int)(x:Nat)(l:Int)(e:Edge):Prop:=aJ f M j.length (eT has j x) l e∧cu M f e l
theorem eM.ext {f:Int}{M M':St}{has:Nat→Bool}(j:aD M M')(t:M.wf)(s:1≤f∧f≤5){q:List Int}{x:Nat}{l:Int}{e:Edge}(h:eM f M has q x l e):eM f M' has q x l e:=
 ⟨aJ.ext j s _ _ _ _ h.1,ez j t h.2⟩
theorem eM.f' {f:Int}{M:St}{has:Nat→Bool}{v:Int}{j:List Int}{x:Nat}{l:Int}{lo hi e:Edge}(q:eM f M has j x (l+1) lo)(s:eM f M has j (x ||| 2 ^ v.toNat) (l+1) hi)(t:dJ f M l lo hi e)(z:cu M f e l):eM f M has (v::j) x l e:=by
 refine⟨⟨jw has (v::j) x,lo,hi,?_,?_,t⟩,z⟩
 ·show aJ f M j.length ((eT has j x++eT has j (x ||| 2 ^ v.toNat)).take (2 ^ j.length)) (l+1) lo;rw[List.take_left' (jw has j x)];exact q.1
 ·show aJ f M j.length ((eT has j x++eT has j (x ||| 2 ^ v.toNat)).drop (2 ^ j.length)) (l+1) hi;rw[List.drop_left' (jw has j x)];exact s.1
def jR (f:Int)(F:Nat→Prop)(q:World)(sb:Nat)(M:St)(has:Nat→Bool)(j:List Int)(x:Nat)(l:Int)(r:Ending)(w':World):Prop:=
 ∃e M',r=.returned (.tuple #[.agg #[.int .u8 e.tag,.int .u32 e.to],.int .u8 0])∧e.ok∧eM f M' has j x l e∧(ei M M' ((2 ^ j.length-1:Nat):Int)∧(M.cd→M'.cd))∧bY F q w' sb M'
theorem vM (f:Int)(a3:aR f=true){F Fo:Nat→Prop}{w:World}{sb s J:Nat}{M:St}{n:Nat}{ps ws:List Int}{aw:Option Addr}{len cap:Nat}(h:ak F w sb M)(q:fU F Fo w sb s J f n ps ws aw len cap)(a5:ws.length=len)(a6:len≤1048576)(a7:dP (n:Int) ws=true)(x:Nat)(be:x<2 ^ n)(B:M.n=(n:Int)) :
  Calls Tryz.prog 98 #[.pointer (some ⟨J,0,none⟩),.int .i64 (n:Int),.int .i64 (x:Int)] w (jR f F w sb M (hasB ws) [] x (n:Int)):=by
 have Y:=h.wf.bw
 rw[B]at Y
 have N:=fun(s:World) (O:ae w s)=>dw (h.ad O)
 have L:=fun(s:World) (O:ae w s)=>Cn n x aw len cap ws s a5 a6 (q.fl.ad O) a7 be
 have a0:=fun(s:World)=>Ag f (n:Int) s a3 (by omega) Y
 rw[B]at N
 have bd:1≤f∧f≤5:=by simpa[aR]using a3
 have W:eM f M (hasB ws) [] x (n:Int) (cY f (hasB ws x) (n:Int)):=⟨⟨_,rfl,rfl⟩,by rw[←B];exact qO h.wf⟩
 have T:(cY f (hasB ws x) (n:Int)).ok:=qN (by omega) Y
 have s:=q.c0
 have a':=q.c2
 have s:=q.c3
 have s:=q.c4
 have bb:=q.lt
 have s:x≤65536:=by
  have:2 ^ n≤2 ^ 16:=aW (by decide) (by omega);have s:(2:Nat) ^ 16=65536:=rfl;omega
 obtain⟨b,S⟩:∃b,b=hasB ws x:=⟨_,rfl⟩
 rw[←S]at W L T
 have av:=aa N
 have am:=aa L
 have E:=aa a0
 have I:=aa h
 have z:=aa W
 have t:=aa T
 have U:lz f (n:Int)=cY f true (n:Int):=rfl
 have X:(⟨0,0⟩:Edge)=cY f false (n:Int):=rfl
 have al:=aa S
 clear N L a0 h q W a5 a6 a7 B bd S T
 have a4:ei M M ((2 ^ ([]:List Int).length-1:Nat):Int)∧(M.cd→M.cd):=⟨ei.refl I.out.wf (by decide),fun h=>h⟩
 cases b with
 |true=>
  rw[←U]at z t;obtain⟨e,a1⟩:∃e,e=lz f (n:Int):=⟨_,rfl⟩;rw[←a1]at z t E;clear a1 U X al;go_enter Tryz.func98,Tryz.ntmps98;go_wp2_with fail;refine(av.out _ kp).mono ?_;rintro r w1 ⟨rfl,rfl⟩;go_wp2_with fail;refine(am.out _ kp).mono ?_;rintro r bf ⟨rfl,j⟩;have q:=j.cell (a:=⟨J,2,none⟩) (v:=.int .u8 f) (by simp[go_sem,a',bb]);have ab:=j.U (a:=⟨w.heap.size,0,none⟩) (v:=.int .u8 0);have ad:=j.U (a:=⟨w.heap.size,1,none⟩) (v:=.int .u32 0);have a8:=fun o:Nat=>j.d' (a:=⟨w.heap.size,o,none⟩);have Z:=j.size;simp only[ai]at Z;go_wp2_with fail;refine(E.out _).mono ?_;rintro r q ⟨rfl,A⟩;have bg:=A.cell ab;have bi:=A.cell ad;have q:=fun o:Nat=>A.a3 (a:=⟨w.heap.size,o,none⟩) (by dsimp only;omega) (a8 o);have q:=A.size;go_wp2_with fail;all_goals refine aq (v:=.tuple #[.agg #[.int .u8 e.tag,.int .u32 e.to],.int .u8 0]) (by simp[results,Tryz.results98,go_sem,bg,bi]) rfl ?_
  all_goals refine⟨e,M,rfl,t.out,z.out,a4,(bY.refl I.out).ad kp⟩
 |false=>
  rw[←X]at z t;clear U X al E;go_enter Tryz.func98,Tryz.ntmps98;go_wp2_with fail;refine(av.out _ kp).mono ?_;rintro r w1 ⟨rfl,rfl⟩;go_wp2_with fail;refine(am.out _ kp).mono ?_;rintro r bf ⟨rfl,j⟩;have ab:=j.U (a:=⟨w.heap.size,0,none⟩) (v:=.int .u8 0);have ad:=j.U (a:=⟨w.heap.size,1,none⟩) (v:=.int .u32 0);have a8:=fun o:Nat=>j.d' (a:=⟨w.heap.size,o,none⟩);have Z:=j.size;simp only[ai]at Z;go_wp2_with fail;all_goals refine aq (v:=.tuple #[.agg #[.int .u8 0,.int .u32 0],.int .u8 0]) (by simp[results,Tryz.results98,go_sem,ab,ad]) rfl ?_
  all_goals refine⟨⟨0,0⟩,M,rfl,t.out,z.out,a4,(bY.refl I.out).ad kp⟩
theorem vL (f:Int)(er:aR f=true){F Fo:Nat→Prop}{w:World}{sb da S:Nat}{M:St}{n l:Nat}{ps ws:List Int}{ce:Option Addr}{len cap:Nat}(v:Int)(T:List Int)(p:Nat)(cx:2 ^ T.length=p)(e8:1≤p)(e9:p≤65536)(h:ak F w sb M)(ad:fU F Fo w sb da S f n ps ws ce len cap)(c6:0<ws.length)(x:Nat)(b0:x<2 ^ n)(a':M.n=(n:Int))
  (c5:ps[l]?=some v) (e':0≤v) (fa:v<(n:Int)) (ci:l+(T.length+1)=n) (cS:M.len+((2*p-1:Nat):Int)≤M.room)
  (b1:∀(F:Nat→Prop) (j:World) (M:St) (x:Nat),ak F j sb M→fU F Fo j sb da S f n ps ws ce len cap→x<2 ^ n→M.n=(n:Int)→M.len+((p-1:Nat):Int)≤M.room →
    Calls Tryz.prog 98 #[.pointer (some ⟨S,0,none⟩),.int .i64 ((l:Int)+1),.int .i64 (x:Int)] j (jR f F j sb M (hasB ws) T x ((l:Int)+1))) :
  Calls Tryz.prog 98 #[.pointer (some ⟨S,0,none⟩),.int .i64 (l:Int),.int .i64 (x:Int)] w (jR f F w sb M (hasB ws) (v::T) x (l:Int)):=by
 have s:1≤f∧f≤5:=by simpa[aR]using er
 have e0:n≤16:=by have:=h.wf.bw;omega
 obtain⟨V,rfl⟩:∃V:Nat,v=(V:Int):=⟨v.toNat,by omega⟩
 have ce:x<65536:=by
  have:2 ^ n≤2 ^ 16:=aW (by decide) e0;have ek:(2:Nat) ^ 16=65536:=rfl;omega
 have ce:2 ^ V<65536:=by
  have:2 ^ V<2 ^ 16:=Nat.pow_lt_pow_right (by decide) (by omega);have ek:(2:Nat) ^ 16=65536:=rfl;omega
 have c8:x ||| 2 ^ V<2 ^ n:=Nat.or_lt_two_pow b0 (Nat.pow_lt_pow_right (by decide) (by omega))
 have bf:¬F w.heap.size:=fun s=>by have:=h.lt _ s;omega
 have br:=fun(j:World) (ce:ae w j)=>dw (h.ad ce)
 rw[a']at br
 have ea:=aa br
 have d0:=aa (fun(j:World) (A:ae w j)=>b1 F j M x (h.ad A) (ad.ad A c6) b0 a' (by omega))
 have d2:=aa b1
 have ce:=aa h
 have dk:=aa ad
 have b7:=aa ci
 have bp:=aa cx
 have b9:=aa cS
 have E:=aa s
 have ec:=aa c8
 have b8:=aa a'
 have d9:=aa c5
 have cb:=aa c6
 have em:=ad.c0
 have ce:=ad.lt
 have ce:¬(l:Int)=(n:Int):=by omega
 have ce:l≤16:=by omega
 have c7:=pV (x:=(V:Int)) (by omega)
 rw[cN]at c7
 have cv:=o7 x (2 ^ V) (by omega) (by omega)
 have cy:((2 ^ V:Nat):Int)=2 ^ V:=by push_cast;rfl
 rw[cy]at cv
 clear h ad b1 ci cx cS a' c5 br c8 cy b0
 go_enter Tryz.func98,Tryz.ntmps98
 go_wp2_with fail
 refine(ea.out _ kp).mono ?_
 rintro r w0 ⟨rfl,rfl⟩
 go_wp2_with fail
 refine(d0.out _ kp).mono ?_
 rintro r w1 ⟨lo,cc,rfl,cj,co,⟨al,c0⟩,bb⟩
 have a3:=bb.cell bf (o:=0) (v:=.int .u8 0) (by simp)
 have a4:=bb.cell bf (o:=1) (v:=.int .u32 0) (by simp)
 have bn:=fun o:Nat=>bb.a3 (b:=w.heap.size) (o:=o) (by simp) bf (by simp[go_sem])
 obtain⟨⟨a5,bg,a0⟩,b3⟩:=bb
 have e1:=b3.size
 simp only[ai]at a0 e1
 have b4:af F w w1:=(ae.av ((ae.refl w).alloc _) F).bg b3
 have bd:¬a5 w.heap.size:=fun s=>by rcases a0 _ s with q|q;exact bf q;omega
 have b2:¬a5 w1.heap.size:=fun s=>by have:=bg.lt _ s;omega
 have L:=dk.out.step (F':=a5) b4 (fun t av=>by rcases a0 t av with q|q;exact .inl q;right;omega) cb.out
 have ad:cc.n=(n:Int):=by rw[al.ext.n];exact b8.out
 have Z:=al.len
 have bq:=al.room
 rw[bp.out]at Z
 have d1:=aa (fun(j:World) (A:ae w1 j)=>d2.out a5 j cc (x ||| 2 ^ V) (bg.ad A) (L.ad A cb.out) ec.out ad (by have:=b9.out;omega))
 have eb:=aa (fun(j:World) (A:ae w1 j)=>sD (L.b7.ad A) l (V:Int) d9.out)
 have ee:=L.c0
 have a5:=L.c1
 have eg:=L.c2
 have cg:=L.lt
 have dl:=aa L
 have a5:=aa bg
 have d3:=aa co
 have Y:=aa al
 have d6:=aa c0
 have d7:=aa b4
 have cd:=aa a0
 have cl:w.heap.size<w1.heap.size:=by omega
 have a5:S≠w1.heap.size:=by omega
 clear bg co al b3 b4 ad Z bq a0 L c0 em
 go_wp2_with fail
 refine(eb.out _ kp).mono ?_
 rintro r L ⟨rfl,rfl⟩
 go_wp2_with fail
 refine(d1.out _ kp).mono ?_
 rintro r B ⟨hi,I,rfl,ch,a8,⟨z,c1⟩,O⟩
 have c9:=dl.out.e4
 have a3:=O.cell bd (o:=0) (v:=.int .u8 0) (by simp[go_sem,cl,a3])
 have a4:=O.cell bd (o:=1) (v:=.int .u32 0) (by simp[go_sem,cl,a4])
 have bn:=fun o:Nat=>O.a3 (b:=w.heap.size) (o:=o) (by simp;omega) bd (by rw[World.frozen?_alloc_old _ _ _ (by show w.heap.size≠w1.heap.size;omega)];exact bn o)
 have e6:=O.cell b2 (o:=0) (v:=.int .u8 lo.tag) (by simp)
 have e7:=O.cell b2 (o:=1) (v:=.int .u32 lo.to) (by simp)
 have L:=O.cell c9 (o:=0) (v:=.pointer (some ⟨sb,0,none⟩)) (by simp[go_sem,cg,ee])
 have L:=O.cell c9 (o:=2) (v:=.int .u8 f) (by simp[go_sem,cg,eg])
 obtain⟨⟨X,W,a1⟩,b5⟩:=O
 have e2:=b5.size
 simp only[ai]at a1 e2
 have dj:af F w B:=(d7.out.bg (ae.av ((ae.refl w1).alloc _) F)).trans (b5.mono (fun k A s=>by
  rcases cd.out k s with q|q;·exact .inl q
  ·exact .inr ⟨by omega,A⟩))
 have be:¬X w.heap.size:=fun s=>by rcases a1 _ s with q|q;exact bd q;omega
 have L:¬X w1.heap.size:=fun s=>by rcases a1 _ s with q|q;exact b2 q;omega
 have L:¬X B.heap.size:=fun s=>by have:=W.lt _ s;omega
 have a7:=eM.ext z.ext Y.out.wf E.out d3.out
 have cp:I.n=M.n:=z.ext.n.trans Y.out.ext.n
 have eR:I.n=(n:Int):=cp.trans b8.out
 have bt:(l:Int)+1+(T.length:Int)=I.n:=by have:=b7.out;omega
 have cE:=a7.1.leads z.wf E.out bt
 have cD:=a8.1.leads z.wf E.out bt
 have Z:=Y.out.len
 have cf:=z.len
 have bq:=Y.out.room
 have el:=z.room
 have et:=b7.out
 have eS:=b9.out
 rw[bp.out]at Z cf
 have aw:=rW z.wf E.out (l:=(l:Int)) (by omega) (by omega) (by omega) cE cD a7.2 a8.2
 obtain⟨e,a6⟩:∃e,e=aL f I (ay f I (l:Int) lo hi):=⟨_,rfl⟩
 obtain⟨J,ab⟩:∃J,J=aX I (ay f I (l:Int) lo hi):=⟨_,rfl⟩
 have bs:=aw.f'
 have bw:=aw.right
 have am:=aw.b8
 rw[←a6,←ab]at bs bw
 rw[←ab]at am
 have c2:I.cd→J.cd:=fun bx=>by rw[ab];exact mV bx _
 have d5:Hid (∀(j:World),ae B j→Calls Tryz.prog 71 #[.pointer (some ⟨sb,0,none⟩),.int .u8 f,.int .i64 (l:Int),.agg #[.int .u8 lo.tag,.int .u32 lo.to],.agg #[.int .u8 hi.tag,.int .u32 hi.to]] j fun r w'=>r=.returned (.tuple #[.agg #[.int .u8 e.tag,.int .u32 e.to],.int .u8 0])∧bY X j w' sb J):=
  aa (fun j A=>by
   have j:=lX (W.ad A) f (l:Int) lo hi cj ch;rw[ml E.out]at j;have ep:=aw.hx;refine j.mono fun r w' bv=>⟨?_,?_⟩
   ·rw[bv.1,a6];congr 2
    simp only[Array.mk.injEq,List.cons.injEq,Value.int.injEq,true_and,and_true];exact⟨rfl,ep⟩
   ·rw[ab]
    exact bY.of bv.2.1 bv.2.2)
 have A:eM f J (hasB ws) ((V:Int)::T) x (l:Int) e:=by
  refine eM.f' (eM.ext am.ext z.wf E.out a7) ?_ bs bw;exact eM.ext am.ext z.wf E.out a8
 have I:ei M J ((2 ^ ((V:Int)::T).length-1:Nat):Int)∧(M.cd→J.cd):=by
  refine⟨((Y.out.trans z (Int.le_refl _)).trans am ?_),fun bx=>c2 (c1 (d6.out bx))⟩;rw[dm,dd,bp.out];omega
 have j:e.ok:=by
  rw[a6];exact mA W.wf W.bx cj ch (by omega) (by have:=W.wf.bw;omega) E.out
 have ds:=aa A
 have dB:=aa I
 have dr:=aa j
 have d8:=aa dj
 have ed:=aa a1
 have cn:w.heap.size<B.heap.size:=by omega
 have E:w1.heap.size<B.heap.size:=by omega
 have E:S<B.heap.size:=by omega
 have E:B.heap.size≠w1.heap.size:=by omega
 have E:B.heap.size≠w.heap.size:=by omega
 have E:B.heap.size≠S:=by omega
 clear W a7 a8 z b5 dj cp eR bt cE cD Z cf bq el et eS aw bs bw am A I j a6 ab a1 c1 c2 c7 cv
 go_wp2_with fail
 refine kN 11 #[true,true,true,true,true,true,true,true,true,true,true,false,false,false,false,false] (by kernel_rfl) (by kernel_rfl) ?_
 simp only[List.take_succ_cons,List.take_zero,List.drop_succ_cons,List.drop_zero]
 repeat still_step
 refine wpStill_nil ?_
 refine wpAny_ready (fuel:=4) (rs:=[11]) (by kernel_rfl) (by decide) (AllReady.cons rfl (fun K N=>?_) AllReady.nil)
 go_simp
 refine(d5.out _ kp).mono ?_
 rintro r e5 ⟨rfl,U⟩
 have a3:=U.cell be (o:=0) (v:=.int .u8 0) (by simp[go_sem,cn,a3])
 have a4:=U.cell be (o:=1) (v:=.int .u32 0) (by simp[go_sem,cn,a4])
 have bn:=fun o:Nat=>U.a3 (b:=w.heap.size) (o:=o) (by simp;omega) be (by simp only[World.frozen?_drew];rw[World.frozen?_alloc_old _ _ _ (by show w.heap.size≠B.heap.size;omega)];exact bn o)
 have e3:=U.av.size
 simp only[ai,World.a5]at e3
 have ev:w.heap.size<e5.heap.size:=by omega
 have bD:∀t,X t→F t∨w.heap.size≤t:=fun t av=>by
  rcases ed.out t av with q|q
  ·rcases cd.out t q with q|q;·exact .inl q
   ·right;omega
  ·right;omega
 have c3:=bY.step bD d8.out (((ae.refl B).alloc _).drew) U
 obtain⟨⟨b6,db,bi⟩,e4⟩:=U
 simp only[ai,World.a5]at bi
 have c':¬b6 w.heap.size:=fun s=>by rcases bi _ s with q|q;exact be q;omega
 have c4:∀t,b6 t→F t∨w.heap.size≤t:=fun t av=>by
  rcases bi t av with q|q;·exact bD t q
  ·right;omega
 have ca:=aa (bY.hh db c4 c3.av c' (aE _))
 clear c3 db bi e4 c' c4 bD e6 e7
 refine N _ _ ?_
 clear N K
 refine wpAny_take (i:=12) (v:=?_) rfl (by kernel_rfl) (by kernel_rfl) (by kernel_rfl) (fun _ _ _ h=>h) (Or.inl ⟨by rfl,?_⟩) ?_
 rotate_left
 ·intro w;go_simp;try with_reducible rfl
 refine wpAny_take (i:=13) (v:=?_) rfl (by kernel_rfl) (by kernel_rfl) (by kernel_rfl) (fun _ _ _ h=>h) (Or.inl ⟨by rfl,?_⟩) ?_
 rotate_left
 ·intro w;go_simp;try with_reducible rfl
 refine wpAny_ready (rs:=[14]) (by kernel_rfl) (by decide) (AllReady.cons rfl (fun K N=>?_) AllReady.nil)
 go_simp
 refine N _ _ ?_
 clear N K
 refine wpAny_ready (rs:=[15]) (by kernel_rfl) (by decide) (AllReady.cons rfl (fun K N=>?_) AllReady.nil)
 go_simp
 refine N _ _ ?_
 clear N K
 refine wpAny_done (by kernel_rfl) ?_ _
 go_wp2
 all_goals refine aq (v:=.tuple #[.agg #[.int .u8 e.tag,.int .u32 e.to],.int .u8 0]) (by simp[results,Tryz.results98,go_sem,ev,a3,a4]) rfl ?_
 all_goals refine⟨e,J,rfl,dr.out,ds.out,dB.out,?_⟩
 all_goals first|exact(ca.out _ _)|exact(ca.out _ _).ad kp
theorem vK (f:Int)(J:aR f=true){Fo:Nat→Prop}{sb al I:Nat}{n:Nat}{ps ws:List Int}{O:Option Addr}{len cap:Nat}(T:ws.length=len)(U:len≤1048576)(E:dP (n:Int) ws=true)(L:ps.length=n)(Y:∀v∈ps,0≤v∧v<(n:Int)) :
  ∀(j pre:List Int),ps=pre++j→∀(F:Nat→Prop) (q:World) (M:St) (x:Nat),ak F q sb M→fU F Fo q sb al I f n ps ws O len cap→x<2 ^ n→M.n=(n:Int)→M.len+((2 ^ j.length-1:Nat):Int)≤M.room →
   Calls Tryz.prog 98 #[.pointer (some ⟨I,0,none⟩),.int .i64 (pre.length:Int),.int .i64 (x:Int)] q (jR f F q sb M (hasB ws) j x (pre.length:Int)):=by
 have ab:0<ws.length:=by have:=(iJ.1 E).2.1;omega
 have I:n≤16:=by have:=(iJ.1 E).1;omega
 intro j
 induction j with
 |nil=>
  intro pre s F q M x h t B z A;rw[List.append_nil]at s;subst s;rw[L];exact vM f J h t T U E x B z
 |cons v j ad=>
  intro pre s F q M x h t B z A;have W:pre.length+(j.length+1)=n:=by rw[←L,s,di,dm]
  have E:2 ^ j.length≤2 ^ 16:=aW (by decide) (by omega);have E:(2:Nat) ^ 16=65536:=rfl;have X:0<2 ^ j.length:=eG (by decide);have S:2 ^ (j.length+1)=2*2 ^ j.length:=by rw[dd];omega
  have Z:ps[pre.length]?=some v:=by rw[s,jt (aE _),Nat.sub_self];rfl
  have N:=Y v (by rw[s];simp);rw[dm,S]at A
  exact vL f J v j (2 ^ j.length) rfl X (by omega) h t ab x B z Z N.1 N.2 W A (fun F q M x h t B z A=>by
   have:=ad (pre++[v]) (by rw[s];simp) F q M x h t B z A;rw[di,List.length_singleton]at this
   exact_mod_cast this)
theorem wv {F Fo:Nat→Prop}{w:World}{sb T:Nat}{M:St}{ps ws:List Int}(h:ak F w sb M)(Z:ba Fo w T ps)(bf:∀k,F k→¬Fo k)(Y:M.n=(ps.length:Int))(f:Int)(O:aR f=true)
  (z:Option Addr) (len cap:Nat) (aw:ws.length=len) (bi:len≤1048576) (I:iB w z ws) (br:∀b off,z=some ⟨b,off,none⟩→¬F b) (N:dP (ps.length:Int) ws=true) (bs:M.len+((2 ^ ps.length-1:Nat):Int)≤M.room) :
  Calls Tryz.prog 45 #[.pointer (some ⟨sb,0,none⟩),.pointer (some ⟨T,0,none⟩),.int .u8 f,.agg #[.int .i64 (ps.length:Int),.slice z len cap]] w (jR f F w sb M (hasB ws) ps 0 0):=by
 have a0:=dD.1 Z.perm
 have bp:=fun(j:World) (t:ae w j)=>qx (h.ad t) (Z.ad t) Y f O
 have cv:0<ws.length:=by have:=(iJ.1 N).2.1;omega
 have am:=fun(j:World) (E:Nat) (t:ae w j) (ca:w.heap.size≤E) (ca:j.cell? ⟨E,0,none⟩=some (.pointer (some ⟨sb,0,none⟩))) (cb:j.cell? ⟨E,1,none⟩=some (.pointer (some ⟨T,0,none⟩))) (cc:j.cell? ⟨E,2,none⟩=some (.int .u8 f)) (cd:j.cell? ⟨E,3,none⟩=some (.int .i64 (ps.length:Int))) (ce:j.cell? ⟨E,4,none⟩=some (.slice z len cap))=>by
  have cp:¬F E:=fun cf=>by have:=h.lt _ cf;omega
  have cn:fU F Fo j sb T E f ps.length ps ws z len cap:=⟨ca,cb,cc,cd,ce,cp,I.ad t,br,Z.ad t,fun k E cf=>bf k cf E⟩;have:=vK f O aw bi N rfl a0.2.1 ps [] rfl F j M 0 (h.ad t) cn (eG (by decide)) Y bs;exact this
 have ad:=fun(j:World) (t:ae w j)=>dw (h.ad t)
 have ab:=fun(j:World) (t:ae w j)=>tt (ps.length:Int) z len cap ws j aw bi (I.ad t)
 rw[N]at ab
 rw[Y]at ad
 have bn:=h.lt
 have b3:=aa bn
 obtain⟨n,bq⟩:∃n,n=ps.length:=⟨_,rfl⟩
 rw[←bq]at am ad ab ⊢
 have b4:=aa bp
 have b1:=aa am
 have b8:=aa ad
 have b6:=aa ab
 have t:n≤16:=by have:=a0.1;omega
 clear h Z bf Y aw I br N bs a0 bp cv am ad ab bn bq
 go_enter Tryz.func45,Tryz.ntmps45
 go_wp2_with fail
 refine(b4.out _ kp).mono ?_
 rintro r w1 ⟨rfl,J⟩
 have a1:=J.U (a:=⟨w.heap.size,0,none⟩) (v:=.int .i64 (n:Int))
 have a3:=J.U (a:=⟨w.heap.size,1,none⟩) (v:=.slice z len cap)
 have a7:=J.U (a:=⟨w.heap.size+1,0,none⟩) (v:=.int .u8 0)
 have a8:=J.U (a:=⟨w.heap.size+1,1,none⟩) (v:=.int .u32 0)
 have a':=fun o:Nat=>J.d' (a:=⟨w.heap.size+1,o,none⟩)
 have cE:=J.size
 simp only[ai]at cE
 have av:ae w w1:=(((ae.refl w).alloc _).alloc _).trans J
 go_wp2_with fail
 have b9:=aa (fun(j:World) (I:ae w1 j)=>b8.out j (av.trans I))
 have b7:=aa (fun(j:World) (I:ae w1 j)=>b6.out j (av.trans I))
 have cy:=an.cell a1
 have cD:=an.cell a3
 refine cU (w1) (by kernel_rfl) (by kernel_rfl) kp ?_;(repeat (go_big_quiet_step ((first|(go_at_call 97;with_reducible refine Calls.b1 (b7.out _ (an.a4 _)))|(go_at_call 48;with_reducible refine Calls.c' (b9.out _ (an.a4 _)))))));refine wpQuiet_nil ?_;rintro B ⟨⟨_,L⟩,rfl⟩;try dsimp only
 replace a1:=L.cell a1
 replace a3:=L.cell a3
 replace a7:=L.cell a7
 replace a8:=L.cell a8
 replace a':=fun o:Nat=>L.a3 (a:=⟨w.heap.size+1,o,none⟩) (by dsimp only;omega) (a' o)
 have j:=L.size
 have X:=av.trans L
 clear cy cD
 go_wp2_with fail
 obtain⟨s,A⟩:∃s,s=B.alloc (.cells #[.pointer (some ⟨sb,0,none⟩),.pointer (some ⟨T,0,none⟩),.int .u8 f,.int .i64 (n:Int),.slice z len cap] 175):=⟨_,rfl⟩
 have W:ae B s:=by rw[A];exact(ae.refl _).alloc _
 have cg:s.cell? ⟨B.heap.size,0,none⟩=some (.pointer (some ⟨sb,0,none⟩)):=by rw[A];simp[go_sem]
 have ch:s.cell? ⟨B.heap.size,1,none⟩=some (.pointer (some ⟨T,0,none⟩)):=by rw[A];simp[go_sem]
 have ci:s.cell? ⟨B.heap.size,2,none⟩=some (.int .u8 f):=by rw[A];simp[go_sem]
 have cj:s.cell? ⟨B.heap.size,3,none⟩=some (.int .i64 (n:Int)):=by rw[A];simp[go_sem]
 have cl:s.cell? ⟨B.heap.size,4,none⟩=some (.slice z len cap):=by rw[A];simp[go_sem]
 have j:s.heap.size=B.heap.size+1:=by rw[A];simp
 rw[←A]
 clear A
 have a5:=W.cell a7
 have a6:=W.cell a8
 have bD:=fun o:Nat=>W.a3 (a:=⟨w.heap.size+1,o,none⟩) (by dsimp only;omega) (a' o)
 refine(b1.out s B.heap.size (X.trans W) X.size cg ch ci cj cl).mono ?_
 rintro r cS ⟨e,M',rfl,N,be,bg,S⟩
 have al:¬F (w.heap.size+1):=fun O=>by have:=b3.out _ O;omega
 replace a5:=S.cell al a5
 replace a6:=S.cell al a6
 replace bD:=fun o:Nat=>S.a3 (b:=w.heap.size+1) (o:=o) (by omega) al (bD o)
 have cx:w.heap.size+1<cS.heap.size:=by have:=S.av.size;omega
 have bx:=(bY.after (X.trans W) S).av
 obtain⟨⟨bb,bv,a4⟩,-⟩:=S
 have bt:¬bb (w.heap.size+1):=fun O=>by
  rcases a4 _ O with q|q;·exact al q
  ·omega
 have bw:∀U,bb U→F U∨w.heap.size≤U:=fun U co=>by
  rcases a4 U co with q|q;·exact .inl q
  ·right;have:=X.size;omega
 have bd:=aa (bY.hh bv bw bx bt (Nat.le_succ _))
 have b5:=aa N
 have b0:=aa be
 have b2:=aa bg
 clear N be bg bv a4 bw bx bt
 go_wp2_with fail
 all_goals refine aq (v:=.tuple #[.agg #[.int .u8 e.tag,.int .u32 e.to],.int .u8 0]) (by simp[results,Tryz.results45,go_sem,cx,a5,a6]) rfl ?_
 all_goals refine⟨e,M',rfl,b5.out,b0.out,b2.out,?_⟩
 all_goals first|exact(bd.out _ _)|exact(bd.out _ _).ad kp
theorem D8 {f:Int}{M M':St}(q:aD M M')(hF:dH f M){n:Nat}{e:Edge}{l:Int}(h:At f M e l n):bR f M' n e=bR f M n e:=
 D6 (D7 hF (roots:=[e.to]) (fun id hid=>by
  cases j:look M.cs id with
  |none=>exact absurd j hid.some
  |some r=>exact q.sub _ _ j) n e l h (fun s=>Reaches.root (by simp) s))
theorem BR {f:Int}(j:1≤f∧f≤5){M:St}(hF:dH f M){k:Nat}{x:Edge}(q:M.leads f x 0=true)(B:cu M f x 0)(s:0≤x.to)(z:gL M)(t:M.n=(k:Int))(A:M.len+((2 ^ k:Nat):Int)≤1048576):bR f M (k+1) x=fF f k (cm M f x 0) 0:=by
 obtain⟨M',t,E,J,L,N,I⟩:=BP (k:=k) j hF.wf A s z q B (Int.le_refl _) (by omega);have z:=DX E j I (by rw[t.n];omega) (Int.le_refl _) k (aE _);rw[←z];exact(D8 t hF (l:=0) ⟨q,s,by push_cast;omega⟩).symm
def je (n:Nat)(has:Nat→Bool):List Bool:=(List.range (2 ^ n)).map has
theorem oB {n:Nat}{has:Nat→Bool}{j:Nat}(h:j<2 ^ n):(je n has)[j]?=some (has j):=by
 unfold je;rw[dh,jW h];rfl
theorem Dr {M:St}{f:Int}{ps:List Int}{x:Edge}{has:Nat→Bool}(t:aF ps=true)(s:M.n=(ps.length:Int))(h:cm M f x 0=eT has ps 0):tabP M ps f x=je ps.length has:=by
 apply List.ext_getElem?;intro q;by_cases j:q<2 ^ ps.length;·rw[mY j,←pL s,h,qw,sO t j,oB j]
 ·rw[cO (by rw[pN];omega),cO (by unfold je;simp;omega)]
theorem Dq {M:St}{f:Int}{ps:List Int}{x:Edge}{has:Nat→Bool}(s:aF ps=true)(t:M.n=(ps.length:Int))(h:tabP M ps f x=je ps.length has):cm M f x 0=eT has ps 0:=by
 apply List.ext_getElem?;intro y;have A:(cm M f x 0).length=2 ^ ps.length:=by rw[mW];congr 1;omega
 by_cases q:y<2 ^ ps.length
 ·obtain⟨z,j,rfl⟩:=xw s q;have q:=mY (M:=M) (f:=f) (e:=x) j;rw[h,oB j]at q;rw[pL t,←q,qw,sO s j]
 ·rw[cO (by omega),cO (by rw[jw];omega)]
theorem vQ (V x:Nat)(E:V<18446744073709551616)(I:x≤64)(w:World):Calls Tryz.prog 156 #[.int .u64 (V:Int),.int .i64 (x:Int)] w fun e w'=>e=.returned (.bool (V / 2 ^ x%2==1))∧w=w':=by
 go_enter Tryz.func156,Tryz.ntmps156;go_wp2;go_loopg [0,5] x (fun gk E I wr=>∃d:Nat,d+gk=x∧I=.int .i64 (d:Int)∧E=.int .u64 ((V / 2 ^ d:Nat):Int)∧w=wr)
 case atStart=>exact⟨0,by omega,rfl,by simp,rfl⟩
 case round=>
  obtain⟨d,J,rfl,rfl,rfl⟩:=hrel;have t:V / 2 ^ d≤V:=Nat.div_le_self _ _;have s:V / 2 ^ (d+1)=V / 2 ^ d / 2:=by rw[dd,Nat.div_div_eq_div_mul]
  by_cases E:d<x
  ·obtain⟨j,q⟩:∃j,j=V / 2 ^ d:=⟨_,rfl⟩;rw[←q]at t s ⊢;have z:=aa s;clear q s;go_wp2;go_roundg (gk-1)
   case rel=>exact⟨d+1,by omega,by simp,by rw[z.out];simp,rfl⟩
   case measure=>omega
  ·have e:d=x:=(by omega);subst e;obtain⟨j,q⟩:∃j,j=V / 2 ^ d:=⟨_,rfl⟩;rw[←q]at t ⊢
   have B:(((j:Nat):Int)%2==1)=(j%2==1):=by
    rw[Bool.eq_iff_iff];simp only[beq_iff_eq];omega
   have A:=aa q;clear q s;go_wp2;go_ret;exact⟨by rw[←A.out,←B];rfl,rfl⟩
def pY (w:World)(a:Option Addr)(ts:List Bool):Prop:=∀i b,ts[i]?=some b→∃g off,a=some ⟨g,off,none⟩∧w.cell? ⟨g,off+i,none⟩=some (.bool b)
def gH (n:Nat)(ws:List Int):List Bool:=(List.range (2 ^ n)).map (hasB ws)
theorem tw (n:Nat)(ws:List Int):(gH n ws).length=2 ^ n:=by unfold gH;simp
theorem tu {n:Nat}{ws:List Int}{x:Nat}(h:x<2 ^ n):(gH n ws)[x]?=some (hasB ws x):=by
 unfold gH;rw[dh,jW h];rfl
theorem ru:(Tryz.prog.info? 4).map (fun i=>(i.zero,i.size,i.bytes))=some (some (.bool false),1,1):=by kernel_rfl
theorem wj {w:World}{lo n cap:Nat}{a:Option Addr}{ts:List Bool}(q:w.ownsRow lo 4 1 (.slice a n cap) n (ts.map Value.bool))(t:ts.length=n):pY w a ts:=fun i b j=>by
 have hi:=(List.getElem?_eq_some_iff.1 j).1;obtain⟨t,z,e,s⟩:=dv q;cases e;obtain⟨g,rfl⟩:=s (by omega);refine⟨g,0,rfl,?_⟩;rw[dK,q.cellAt i (by omega),dh,j];rfl
theorem Cr (n:Nat)(z:Option Addr)(len cap:Nat)(ws:List Int)(w:World)(a7:ws.length=len)(a4:iB w z ws)(bb:dP (n:Int) ws=true) :
  Calls Tryz.prog 94 #[.agg #[.int .i64 (n:Int),.slice z len cap]] w fun e w'=>∃aw a0,e=.returned (.slice aw (2 ^ n) a0)∧pY w' aw (gH n ws)∧ae w w':=by
 obtain⟨b3,U,b4⟩:=iJ.1 bb
 rw[cN]at U
 have aw:n≤16:=by omega
 have be:2 ^ n≤2 ^ 16:=aW (by decide) aw
 have a1:(2:Nat) ^ 16=65536:=rfl
 have s:2 ^ n≤64∨∃k,2 ^ n=64*k:=by
  by_cases aw:n≤6
  ·left;have:2 ^ n≤2 ^ 6:=aW (by decide) aw;exact this
  ·right;refine⟨2 ^ (n-6),?_⟩;rw[show(64:Nat)=2 ^ 6 from rfl,←Nat.pow_add];congr 1
   omega
 have ab:∀x,x<2 ^ n→x / 64<ws.length:=fun x J=>by
  rcases s with s|⟨k,s⟩;·omega
  ·rw[s]at J U;have:64*k / 64=k:=(by omega);omega
 have B:=fun x (J:x<2 ^ n)=>tu (ws:=ws) J
 have I:=tw n ws
 obtain⟨ts,bf⟩:∃ts,ts=gH n ws:=⟨_,rfl⟩
 rw[←bf]at B I ⊢
 have Y:=fun(S:World)=>mU n (by omega) S
 obtain⟨p,bd⟩:∃p,p=2 ^ n:=⟨_,rfl⟩
 rw[←bd]at Y be ab B I ⊢
 rw[a1]at be
 obtain⟨cc,hi,b9,ca,cb⟩:=info_parts ru
 have am:=aa Y
 have bD:=aa ab
 have br:=aa B
 have av:=aa I
 have bw:=aa a4
 have bs:=aa a7
 clear bb b3 U b4 s ab B I bf Y bd a4 a7 a1
 go_enter Tryz.func94,Tryz.ntmps94
 go_wp2_with fail
 obtain⟨j,t⟩:∃j,j=w.alloc (.cells #[.int .i64 (n:Int),.slice z len cap] 105):=⟨_,rfl⟩
 rw[←t]
 have cd:ae w j:=by rw[t];exact(ae.refl _).alloc _
 have b0:j.cell? ⟨w.heap.size,0,none⟩=some (.int .i64 (n:Int)):=by rw[t];simp[go_sem]
 have b1:j.cell? ⟨w.heap.size,1,none⟩=some (.slice z len cap):=by rw[t];simp[go_sem]
 clear t
 go_loopg [3,4] p (fun gk s t wr=>∃(x:Nat) (v:Value),x+gk=p∧t=.int .i64 (x:Int)∧s=v∧wr.ownsRow j.heap.size 4 1 v x ((ts.take x).map Value.bool)∧ae j wr)
 case atStart=>exact⟨0,.slice none 0 0,by omega,rfl,rfl,World.ownsRow_nil _ _ _ _,ae.refl _⟩
 case round=>
  obtain⟨x,v,J,rfl,rfl,W,q⟩:=hrel;obtain⟨ad,al,rfl,-⟩:=dv W;have O:=aa W;clear W;have s:=q.cell b0;have s:=q.cell b1;have a6:=cd.trans q;have s:=q.size;by_cases a8:x<p
  ·have bn:=bD.out x a8;obtain⟨u,Z⟩:∃b,ws[x / 64]?=some b:=⟨_,ar bn⟩;obtain⟨⟨cg,ch⟩,b,off,rfl,b6⟩:=(bw.out.ad a6) (x / 64) u Z;obtain⟨V,rfl⟩:∃V:Nat,u=(V:Int):=⟨u.toNat,by omega⟩;have b2:(2:Int) ^ 64=18446744073709551616:=rfl;have A:=fun(S:World)=>vQ V (x%64) (by omega) (by omega) S
   have bi:hasB ws x=(V / 2 ^ (x%64)%2==1):=by
    unfold hasB;rw[dC,Z];have:((V:Int) / 2 ^ (x%64))%2=((V / 2 ^ (x%64)%2:Nat):Int):=(by push_cast;rfl);simp only[Option.getD_some];rw[this,Bool.eq_iff_iff];simp only[beq_iff_eq];omega
   have L:=br.out x a8;rw[bi]at L;obtain⟨N,a3⟩:∃N,N=(V / 2 ^ (x%64)%2==1):=⟨_,rfl⟩;rw[←a3]at A L;have a':((x%64:Nat):Int)=(x:Int)%64:=(by omega);rw[a']at A;have bq:=aa A;have bx:=aa L;have s:x / 64<len:=(by rw[←bs.out];exact bn);have b5:=aB b6;dsimp only at b5;have ce:x+1≤maxLen:=(by unfold maxLen;omega);have cf:(x+1)*1≤140737488355328:=(by omega);clear Z A bi L a3 cg ch b2 a';go_wp2_with fail;refine(am.out _).mono ?_;rintro e ci ⟨rfl,rfl⟩;go_upto_region 5 with fail
   go_wp2_with (first
    |(go_at_call 156;refine(bq.out _).mono ?_;rintro e cl ⟨rfl,rfl⟩)
    |(at_builtin;refine wpList_append_own _ rfl _ _ 62 rfl j.heap.size 4 cc (.bool false) 1 1 Tryz.underlying62 hi b9 ca cb rfl (by decide) (.slice ad x al) x ((ts.take x).map Value.bool) rfl (O.out.alloc _) ⟨wr.heap.size,0,none⟩ 1 1 [.bool N] rfl rfl (eU _ _ _ _ rfl) (by simp[Value.oneCell']) (by exact ce) (by exact cf) (by simp;omega) ?_;intro s bp X a5 _)
    |fail)
   obtain⟨lb,cj,rfl,-⟩:=dv X;have bg:af (fun k=>(Value.slice ad x al).ownBlock=some k) wr bp:=af.b8 (by repeat (first|exact af.refl _ _|refine af.alloc ?_ _|refine af.drew ?_)) a5 (fun k q=>.inl q)
   have b7:ae j bp:=q.new bg (fun k E=>by
    rcases O.out.2 with⟨T,_⟩|⟨q,a0,j,T,s,_⟩
    ·rw[T]at E;simp[Value.ownBlock]at E
    ·rw[T]at E;simp[Value.ownBlock]at E;omega)
   have bv:=aa X;clear X a5 bg;go_wp2_with fail;go_roundg (gk-1)
   case rel=>exact⟨x+1,_,by omega,by simp,rfl,by
    have:=bv.out;rw[gT bx.out,fL]
    exact this,b7⟩
   case measure=>omega
  ·have b8:x=p:=(by omega);subst b8;have j:=O.out;rw[ic (by rw[av.out];exact aE _)]at j;have bt:=aa j;clear j;go_wp2_with fail;refine(am.out _).mono ?_;rintro e ci ⟨rfl,rfl⟩;go_wp2_with fail;go_ret;exact⟨ad,al,rfl,wj bt.out av.out,a6⟩
theorem xx (j:Nat)(ps:List Int):bV j ps=bG j ps.reverse:=by
 have key:∀qs:List Int,bV j qs.reverse=bG j qs:=by
  intro qs;induction qs with
  |nil=>rfl
  |cons v qs q=>
   rw[List.reverse_cons,xy,q];show _=vb j v+2*bG j qs;omega
 have h:=key ps.reverse;rwa[List.reverse_reverse]at h
def cP (qs:List Int)(y:Nat):Nat→Nat
 |0=>0
 |i+1=>cP qs y i ||| (y / 2 ^ i%2)*2 ^ (qs.getD i 0).toNat
theorem vP (b k v:Nat)(j:b<2):(b*2 ^ k).testBit v=(decide (v=k)&&decide (b=1)):=by
 rw[iW,Nat.testBit_two_pow_mul];by_cases h:k≤v
 ·rw[bc h,Bool.true_and];by_cases q:v=k
  ·subst q;rw[Nat.sub_self,Nat.testBit_zero,bc rfl,Bool.true_and];have:b%2=b:=dT j;rw[this]
  ·rw[aY q,Bool.false_and]
   exact Nat.testBit_lt_two_pow (bI j (by
    have:2 ^ 1≤2 ^ (v-k):=aW (by decide) (by omega)
    simpa using this))
 ·rw[aY h,Bool.false_and,aY (by omega),Bool.false_and]
theorem zS (qs:List Int)(y v:Nat):∀i,(cP qs y i).testBit v=true↔∃j,j<i∧(qs.getD j 0).toNat=v∧y.testBit j=true:=by
 intro i;induction i with
 |zero=>unfold cP;simp
 |succ i A=>
  unfold cP;rw[Nat.testBit_or,dS,A,vP _ _ _ (bU _ (by decide)),bT,bC,bC];constructor
  ·rintro(⟨j,t,q,s⟩|⟨t,q⟩);·exact⟨j,by omega,q,s⟩
   ·exact⟨i,by omega,t.symm,by rw[Nat.testBit_eq_decide_div_mod_eq];exact bc q⟩
  ·rintro⟨j,t,q,s⟩;by_cases z:j=i
   ·subst z;right;rw[Nat.testBit_eq_decide_div_mod_eq]at s;exact⟨q.symm,of_decide_eq_true s⟩
   ·exact .inl ⟨j,by omega,q,s⟩
theorem sm {qs:List Int}{n:Nat}(q:∀s,(qs.getD s 0).toNat<n)(y i:Nat):cP qs y i<2 ^ n:=by
 induction i with
 |zero=>exact eG (by decide)
 |succ i j=>
  unfold cP;refine Nat.or_lt_two_pow j ?_;have j:y / 2 ^ i%2<2:=bU _ (by decide)
  have s:2 ^ (qs.getD i 0).toNat*2≤2 ^ n:=by
   rw[←dd];exact aW (by decide) (q i)
  have q:0<2 ^ (qs.getD i 0).toNat:=eG (by decide);generalize y / 2 ^ i%2=b at j;have:b=0∨b=1:=by omega
  rcases this with rfl|rfl;·simp;omega
  ·omega
theorem sn {qs:List Int}{y i:Nat}(h:y<2 ^ i):∀k,cP qs y (i+k)=cP qs y i:=by
 intro k;induction k with
 |zero=>rfl
 |succ k j=>
  show cP qs y (i+k) ||| (y / 2 ^ (i+k)%2)*2 ^ (qs.getD (i+k) 0).toNat=_;rw[j,Nat.div_eq_of_lt (bI h (aW (by decide) (by omega)))];simp
theorem xv {ps:List Int}(N:aF ps=true){y:Nat}(U:y<2 ^ ps.length):bV (cP ps.reverse y ps.length) ps=y∧cP ps.reverse y ps.length<2 ^ ps.length:=by
 obtain⟨W,z,O⟩:=dD.1 N
 have T:∀j,(ps.reverse.getD j 0).toNat<ps.length∨ps.length=0:=fun j=>by
  by_cases s:ps.length=0;·exact .inr s
  ·left;rw[dC];cases q:ps.reverse[j]? with
   |none=>simp;omega
   |some x=>
    have t:x∈ps:=List.mem_reverse.1 (bB q);have:=z x t;simp;omega
 refine⟨?_,?_⟩
 ·rw[xx];apply Nat.eq_of_testBit_eq;intro j;rw[pQ];cases q:ps.reverse[j]? with
  |none=>
   simp only[]
   have N:ps.length≤j:=by
    have:=List.getElem?_eq_none_iff.1 q;rwa[List.length_reverse]at this
   exact(Nat.testBit_lt_two_pow (bI U (aW (by decide) N))).symm
  |some v=>
   simp only[]
   have L:j<ps.length:=by
    have:=(List.getElem?_eq_some_iff.1 q).1;rwa[List.length_reverse]at this
   have t:v∈ps:=List.mem_reverse.1 (bB q);have N:=z v t;obtain⟨u,rfl⟩:∃u:Nat,v=(u:Int):=⟨v.toNat,by omega⟩;rw[jX];have key:=zS ps.reverse y u ps.length;have S:ps.reverse.Nodup:=(List.reverse_perm ps).nodup_iff.2 O;cases I:y.testBit j with
   |true=>exact key.2 ⟨j,L,by rw[dC,q];rfl,I⟩
   |false=>
    cases J:(cP ps.reverse y ps.length).testBit u with
    |false=>rfl
    |true=>
     obtain⟨i,A,B,E⟩:=key.1 J;have hi:ps.reverse[i]?=some (ps.reverse[i]'(by rw[List.length_reverse];exact A)):=ar _;have t:=z _ (List.mem_reverse.1 (bB hi));rw[dC,hi]at B;simp only[Option.getD_some]at B;have t:ps.reverse[i]?=ps.reverse[j]?:=(by rw[hi,q];congr 1;omega);have q:i=j:=(List.getElem?_inj (by rw[List.length_reverse];exact A) S).1 t;rw[q,I]at E;cases E
 ·by_cases s:ps.length=0;·rw[s];exact Nat.one_pos
  ·exact sm (fun j=>(T j).resolve_right s) _ _
theorem Eb {F:Nat→Prop}{w:World}{J t:Nat}{ps:List Int}(h:ba F w J ps)(O:w.cell? ⟨t,0,none⟩=some (.pointer (some ⟨J,0,none⟩)))(i:Nat)(v:Int)(q:ps.reverse[i]?=some v) :
  Calls Tryz.prog 158 #[.int .i64 (i:Int),.pointer (some ⟨t,0,none⟩)] w fun e w'=>e=.returned (.int .i64 v)∧ae w w':=by
 obtain⟨O,S,J,t,L,z,hi⟩:=h.cells
 have N:=h.le
 have s:i<ps.length:=by
  have:=(List.getElem?_eq_some_iff.1 q).1;rwa[List.length_reverse]at this
 have I:ps[ps.length-1-i]?=some v:=by rw[List.getElem?_reverse s]at q;exact q
 obtain⟨b,off,rfl,B⟩:=hi _ _ I
 obtain⟨j,A⟩:∃j,j=ps.length:=⟨_,rfl⟩
 rw[←A]at L z N s B
 obtain⟨k,E⟩:∃k,k=j-1-i:=⟨_,rfl⟩
 rw[←E]at B
 have t:IntKind.i64.wrap ((j:Int)-1)=(j:Int)-1:=IntWalk.i64_in _ ⟨by omega,by omega⟩
 have t:IntKind.i64.wrap ((j:Int)-1-(i:Int))=(k:Int):=(IntWalk.i64_in _ ⟨by omega,by omega⟩).trans (by omega)
 have t:(j:Int)-1-(i:Int)=(k:Int):=by omega
 have t:k<j:=by omega
 have t:(k:Int)<(j:Int):=by omega
 clear h z hi A q I E s
 go_enter Tryz.func158,Tryz.ntmps158
 go_wp2_with fail
 go_quiet (fail)
 go_wp2_with fail
 go_ret
 exact⟨rfl,kp⟩
theorem D9 {F:Nat→Prop}{w:World}{a4 ad:Nat}{ps:List Int}(h:ba F w a4 ps)(s:w.cell? ⟨ad,0,none⟩=some (.pointer (some ⟨a4,0,none⟩)))(y:Nat)(Z:y<2 ^ ps.length) :
  Calls Tryz.prog 157 #[.int .i64 (y:Int),.func (.func 158) #[] #[.pointer (some ⟨ad,0,none⟩)]] w fun e w'=>e=.returned (.int .i64 (cP ps.reverse y ps.length:Int))∧ae w w':=by
 have O:=h.le
 have bb:=aa (fun(E:World) (I:ae w E) (i:Nat) (v:Int) (ad:ps.reverse[i]?=some v)=>Eb (h.ad I) (I.cell s) i v ad)
 obtain⟨-,a0,-⟩:=dD.1 h.perm
 have J:∀i,i<ps.length→∃u:Nat,ps.reverse[i]?=some (u:Int)∧u<16∧u<ps.length:=fun i hi=>by
  have e:ps.reverse[i]?=some (ps.reverse[i]'(by rw[List.length_reverse];exact hi)):=ar _;have A:=a0 _ (List.mem_reverse.1 (bB e));exact⟨_,by rw[e,Int.toNat_of_nonneg A.1],by omega,by omega⟩
 have aw:∀i,cP ps.reverse y i<2 ^ 16:=fun i=>by
  by_cases q:ps.length=0
  ·have B:y=0:=(by rw[q]at Z;omega);have:=sn (qs:=ps.reverse) (y:=y) (i:=0) (by rw[B];decide) i;rw[dK]at this;rw[this];show 0<2 ^ 16;decide
  ·refine bI (sm (n:=ps.length) (fun a3=>?_) y i) (aW (by decide) O);rw[dC];by_cases bq:a3<ps.length
   ·obtain⟨u,t,-,am⟩:=J a3 bq;rw[t];simpa using am
   ·rw[cO (by rw[List.length_reverse];omega)];simp;omega
 have bx:y<65536:=by
  have:2 ^ ps.length≤2 ^ 16:=aW (by decide) O;have ad:(2:Nat) ^ 16=65536:=rfl;omega
 have B:∀i,ps.length≤i→y / 2 ^ i=0:=fun i hi=>Nat.div_eq_of_lt (bI Z (aW (by decide) hi))
 have Y:∀i,i≤ps.length→y / 2 ^ i=0→cP ps.reverse y ps.length=cP ps.reverse y i:=fun i hi q=>by
  have bD:y<2 ^ i:=by
   rcases Nat.div_eq_zero_iff.1 q with h|h;·have:=eG (n:=i) (a:=2) (by decide);omega
   ·exact h
  have:=sn (qs:=ps.reverse) bD (ps.length-i);rwa[show i+(ps.length-i)=ps.length by omega]at this
 have a1:∀(i u:Nat),ps.reverse[i]?=some (u:Int)→cP ps.reverse y (i+1)=cP ps.reverse y i ||| (y / 2 ^ i%2)*2 ^ u:=fun i u t=>by
  show cP ps.reverse y i ||| (y / 2 ^ i%2)*2 ^ (ps.reverse.getD i 0).toNat=_;rw[dC,t];rfl
 obtain⟨z,av⟩:∃z,z=ps.length:=⟨_,rfl⟩
 rw[←av]at O J B Y ⊢
 have a7:=aa J
 have a8:=aa aw
 have bi:=aa B
 have bf:=aa Y
 have bg:=aa a1
 have al:cP ps.reverse y 0=0:=rfl
 have a5:=aa al
 clear h s a0 J aw B Y a1 Z av al
 go_enter Tryz.func157,Tryz.ntmps157
 go_wp2
 go_loopg [5,6] (17-0) (fun gk B J wr=>∃i:Nat,B=.int .i64 (cP ps.reverse y i:Int)∧J=.int .i64 (i:Int)∧i≤z∧i+gk=17∧ae w wr)
 case atStart=>exact⟨0,by rw[a5.out];rfl,rfl,by omega,rfl,kp⟩
 case round=>
  obtain⟨i,rfl,rfl,hi,B,T⟩:=hrel;have S:(y:Int) / 2 ^ ((i:Int).toNat)=((y / 2 ^ i:Nat):Int):=by rw[cN];push_cast;rfl
  have bs:=a8.out i;obtain⟨m,A⟩:∃m,m=cP ps.reverse y i:=⟨_,rfl⟩;rw[←A]at bs ⊢;have ab:=aa A;obtain⟨j,L⟩:∃j,j=y / 2 ^ i:=⟨_,rfl⟩;rw[←L]at S;have B:j<65536:=by rw[L];exact Nat.lt_of_le_of_lt (Nat.div_le_self _ _) bx
  have B:(y:Int) / 2 ^ i=(j:Int):=by rw[cN]at S;exact S
  have N:=aa L;clear A L;by_cases q:j=0
  ·subst q;have A:=bf.out i hi N.out.symm;rw[←ab.out]at A;have a6:=aa A;clear A;go_wp2_with fail;go_ret;exact⟨by rw[a6.out];rfl,T⟩
  ·have bp:i<z:=by
    by_cases h:i<z;·exact h
    ·have:=bi.out i (by omega);rw[←N.out]at this;exact absurd this q
   obtain⟨u,t,z,-⟩:=a7.out i bp;have hand:bits BinOp.and IntKind.i64 (j:Int) 1=((j%2:Nat):Int):=(by rw[nM _ (by omega) (by omega)];push_cast;rfl);obtain⟨b,s⟩:∃b,b=j%2:=⟨_,rfl⟩;rw[←s]at hand;have z:b<2:=(by rw[s];exact bU _ (by decide));have U:=bg.out i u t;rw[←ab.out,←N.out,←s]at U
   have bw:b*2 ^ u<65536:=by
    have z:2 ^ u≤2 ^ 15:=aW (by decide) (by omega);have am:b*2 ^ u≤1*2 ^ 15:=iX (by omega) z;have z:(2:Nat) ^ 15=32768:=rfl;omega
   have X:IntKind.i64.wrap ((b:Int)*2 ^ ((u:Int).toNat))=((b*2 ^ u:Nat):Int):=by
    rw[cN,show(b:Int)*2 ^ u=((b*2 ^ u:Nat):Int) by push_cast;rfl];exact lO _ (by omega)
   have bv:IntKind.i64.wrap ((b:Int)*2 ^ u)=((b*2 ^ u:Nat):Int):=(by rw[cN]at X;exact X);have bt:bits BinOp.or IntKind.i64 (m:Int) ((b*2 ^ u:Nat):Int)=((m ||| b*2 ^ u:Nat):Int):=o7 _ _ (by omega) (by omega);have bd:=aa (fun(E:World) (I:ae w E)=>bb.out E I i u t);have a':=aa U;obtain⟨r,W⟩:∃r,r=b*2 ^ u:=⟨_,rfl⟩;rw[←W]at X bv bt;have be:=aa W;have z:(0:Int)<(j:Int):=(by omega);clear t U s W bw q;go_wp2_with fail;have j:∀x:an wr,ae w x.w:=fun x=>T.trans x.a4;have bn:=aa j;clear j;refine cU (wr) (by kernel_rfl) (by kernel_rfl) kp ?_;repeat (go_big_quiet_step (first|(go_at_call 158;exact Calls.b1 (bd.out _ (bn.out _)))|fail))
   refine wpQuiet_nil ?_;rintro j ⟨⟨_,br⟩,rfl⟩;try dsimp only
   go_wp2_with fail;go_roundg (gk-1)
   case rel=>exact⟨i+1,by rw[a'.out,←be.out],by push_cast;rfl,by omega,by omega,T.trans br⟩
   case measure=>omega
theorem Ao {F:Nat→Prop}{w:World}{s:Nat}{ps:List Int}(h:ba F w s ps)(y:Nat)(q:y<2 ^ ps.length) :
  Calls Tryz.prog 95 #[.pointer (some ⟨s,0,none⟩),.int .i64 (y:Int)] w fun e w'=>e=.returned (.int .i64 (cP ps.reverse y ps.length:Int))∧ae w w':=by
 obtain⟨O,S,L,z,A,B,hi⟩:=h.cells
 have N:=h.le
 have J:(y:Int) / 2 ^ ps.length=0:=by
  have:=Nat.div_eq_of_lt q;have e:((y / 2 ^ ps.length:Nat):Int)=(y:Int) / 2 ^ ps.length:=by push_cast;rfl
  rw[←e,this];rfl
 have t:=aa (fun(z:World) (L:Nat) (O:ae w z) (S:z.cell? ⟨L,0,none⟩=some (.pointer (some ⟨s,0,none⟩)))=>D9 (h.ad O) S y q)
 obtain⟨R,I⟩:∃R,R=cP ps.reverse y ps.length:=⟨_,rfl⟩
 rw[←I]at t ⊢
 obtain⟨j,E⟩:∃j,j=ps.length:=⟨_,rfl⟩
 rw[←E]at A B N J
 have s:(y:Int) / 2 ^ ((j:Int).toNat)=0:=by rw[cN];exact J
 have T:=aB A
 dsimp only at T
 clear h B hi E I q
 go_enter Tryz.func95,Tryz.ntmps95
 go_wp2_with (first|(go_at_call 157;refine(t.out _ _ kp (by simp[go_sem])).mono ?_;rintro e w1 ⟨rfl,j⟩)|fail)
 go_ret
 exact⟨rfl,kp⟩
end Go.Proofs.YtafkamlhimkbmaaGreat
