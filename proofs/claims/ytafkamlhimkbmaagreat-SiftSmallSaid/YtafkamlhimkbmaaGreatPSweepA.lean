/-
  Sweep, plainly: what goes, and the state behind it.
-/
import Derived.Test.YtafkamlhimkbmaaGreatPReachA
namespace Go.Proofs.YtafkamlhimkbmaaGreat
set_option maxRecDepth 1000000
set_option maxHeartbeats 8000000
set_option linter.unusedSimpArgs false
set_option linter.unusedVariables false

noncomputable def di (M:St)(roots:List Int):List Int:=(bS M.cs).filter (fun x=>!decide (x∈aQ M.cs roots))

def cZ (cs:List (Option Rec))(l:List Int):List (Option Rec):=l.foldl (fun c id=>c.set (id-2).toNat none) cs

noncomputable def cM (M:St)(roots:List Int):St:={ M with cs:=cZ M.cs (di M roots),gone:=M.gone++di M roots }

theorem o7 (cs:List (Option Rec))(l:List Int):(cZ cs l).length=cs.length:=by
 unfold cZ;induction l generalizing cs with
 |nil=>rfl
 |cons x l j=>rw[List.foldl_cons,j,List.length_set]

theorem o8 (cs:List (Option Rec))(l:List Int)(id:Int):cZ cs (l++[id])=(cZ cs l).set (id-2).toNat none:=by
 unfold cZ;rw[List.foldl_append];rfl

theorem pY {cs:List (Option Rec)}{id:Int}(h:2≤id)(x:Int):look (cs.set (id-2).toNat none) x=if x=id then none else look cs x:=by
 unfold look;by_cases j:x<2;·rw[if_pos j,if_neg (by omega),if_pos j]
 ·rw[if_neg j];by_cases q:x=id
  ·subst q;rw[if_pos rfl,List.getElem?_set];simp;split<;>rfl
  ·rw[if_neg q,if_neg j,List.getElem?_set,if_neg (by omega)]

theorem mJ {cs:List (Option Rec)}{l:List Int}(h:∀x∈l,2≤x)(x:Int):look (cZ cs l) x=if x∈l then none else look cs x:=by
 induction l generalizing cs with
 |nil=>simp[cZ]
 |cons y l s=>
  show look (cZ (cs.set (y-2).toNat none) l) x=_;rw[s (fun t s=>h t (List.mem_cons_of_mem _ s)),pY (h y List.mem_cons_self)];by_cases j:x∈l;·simp[j]
  ·by_cases q:x=y;·simp[q]
   ·simp[j,q]

theorem jx {M:St}{roots:List Int}{x:Int}:x∈di M roots↔look M.cs x≠none∧¬Reaches M.cs roots x:=by
 unfold di;rw[List.mem_filter,kA];simp[eL]

theorem vI (M:St)(roots:List Int):(di M roots).Pairwise (·<·):=List.Pairwise.filter _ (my _ _)

theorem ph (M:St)(roots:List Int):(di M roots).Nodup:=jN (vI M roots)

theorem mo {M:St}{roots:List Int}{x:Int}(h:x∈di M roots):2≤x∧x-2<(M.cs.length:Int):=by
 obtain⟨q,_⟩:=jx.1 h;cases j:look M.cs x with
 |none=>exact absurd j q
 |some r=>have:=bL j;omega

theorem pZ {M:St}{roots:List Int}(x:Int):look (cM M roots).cs x=if x∈di M roots then none else look M.cs x:=
 mJ (fun j j=>(mo j).1) x

theorem jD {M:St}{roots:List Int}{x:Int}{r:Rec}:look (cM M roots).cs x=some r↔look M.cs x=some r∧Reaches M.cs roots x:=by
 rw[pZ];by_cases h:x∈di M roots
 ·rw[if_pos h];exact⟨fun j=>(by cases j),fun j=>absurd j.2 (jx.1 h).2⟩
 ·rw[if_neg h];exact⟨fun j=>⟨j,Classical.byContradiction fun q=>h (jx.2 ⟨by rw[j];simp,q⟩)⟩,fun j=>j.1⟩

theorem nY (M:St)(roots:List Int):(cM M roots).len=M.len-((di M roots).length:Int):=by
 unfold St.len cM;simp only[o7,List.length_append];omega

theorem mG {M:St}{roots:List Int}{f:Int}{e:Edge}{l:Int}(h:M.leads f e l=true)(s:look M.cs e.to≠none→Reaches M.cs roots e.to):(cM M roots).leads f e l=true:=by
 unfold St.leads at h ⊢;simp only[Bool.and_eq_true,Bool.or_eq_true]at h ⊢;refine⟨h.1,?_⟩;rcases h.2 with j|j;·exact .inl j
 ·right;cases q:look M.cs e.to with
  |none=>rw[q]at j;simp at j
  |some r=>
   rw[jD.2 ⟨q,s (by rw[q];simp)⟩];rw[q]at j;exact j

theorem St.wf.e3 {M:St}(h:M.wf)(roots:List Int)(L:0≤(cM M roots).len):(cM M roots).wf:=by
 have S:=nY M roots;refine⟨h.n0,h.bw,?_,?_,?_,?_,L,h.hA,h.gp,?_⟩
 ·intro id hid;have N:id∈M.gone∨id∈di M roots:=List.mem_append.1 hid;have L:(cM M roots).cs.length=M.cs.length:=o7 _ _;rw[L,pZ];rcases N with j|j
  ·obtain⟨z,A,E⟩:=h.gone id j;exact⟨z,A,by split;rfl;exact E⟩
  ·have:=mo j;exact⟨this.1,this.2,by rw[if_pos j]⟩
 ·refine List.nodup_append.2 ⟨h.gj,ph M roots,?_⟩;intro a I b K J;subst J;exact(jx.1 K).1 (h.gone a I).2.2
 ·intro id r O;obtain⟨j,s⟩:=jD.1 O;have q:=h.c6 id r j;have t:=Reaches.closed M.cs roots id r s j;unfold St.bq at q ⊢;simp only[Bool.or_eq_false_iff,Bool.not_eq_false']at q ⊢;exact⟨⟨q.1.1,mG q.1.2 t.1⟩,mG q.2 t.2⟩
 ·intro r id q j s;exact h.b2 r id q (jD.1 j).1 (jD.1 s).1
 ·have:=h.cx;show(cM M roots).len≤M.room;omega

theorem dS {a x y n:Nat}(j:x<n)(q:y<n)(h:(a+x)%n=(a+y)%n):x=y:=by
 have key:∀x y,x<n→y<n→x≤y→(a+x)%n=(a+y)%n→x=y:=by
  intro x y j q hle h;have s:(a+y)%n=((a+x)%n+(y-x))%n:=by rw[Nat.mod_add_mod,show a+x+(y-x)=a+y by omega]
  have t:=Nat.mod_lt (a+x) (show n > 0 by omega);by_cases t:(a+x)%n+(y-x)<n
  ·rw[Nat.mod_eq_of_lt t]at s;omega
  ·have s:((a+x)%n+(y-x))%n=(a+x)%n+(y-x)-n:=by
    rw[show(a+x)%n+(y-x)=(a+x)%n+(y-x)-n+n by omega,Nat.add_mod_right,Nat.mod_eq_of_lt (by omega)];omega
   omega
 rcases Nat.le_total x y with hle|hle;·exact key x y j q hle h
 ·exact(key y x q j hle h.symm).symm

theorem kX {H h n d D u v:Nat}(z:d≤D)(t:D<n)(A:u<n)(j:v<n)(q:(H+d)%n=(h+u)%n)(s:(H+D)%n=(h+v)%n):u+(D-d)=v∨u+(D-d)=v+n:=by
 have e:(h+(u+(D-d)))%n=(h+v)%n:=by
  rw[←s,show h+(u+(D-d))=(h+u)+(D-d) by omega,←Nat.mod_add_mod,←q,Nat.mod_add_mod,show H+d+(D-d)=H+D by omega]
 by_cases q:u+(D-d)<n;·exact .inl (dS q j e)
 ·right
  have q:(h+(u+(D-d)-n))%n=(h+v)%n:=by
   rw[←e,show h+(u+(D-d))=h+(u+(D-d)-n)+n by omega,Nat.add_mod_right]
  have:=dS (by omega) j q;omega

theorem yB {H h n d u e:Nat}(j:(H+d)%n=(h+u)%n):(H+(d+e))%n=(h+(u+e))%n:=by
 rw[show H+(d+e)=(H+d)+e by omega,←Nat.mod_add_mod,j,Nat.mod_add_mod,show h+u+e=h+(u+e) by omega]

theorem lW {ts:ah}{i:Nat}{r s:Rec}{id q:Int}(h:ah.at ts i r id)(j:ah.at ts i s q):r=s∧id=q:=by
 unfold ah.at at h j;rw[h]at j;cases j;exact⟨rfl,rfl⟩

structure dP (H:Rec→Nat→Nat)(ts:ah)(h:Nat)(k:Rec)(D s t:Nat)(T:ah):Prop where
 len:T.length=ts.length
 st:s<t
 tD:t≤D
 Dn:D<ts.length
 gb:T[(h+s)%ts.length]?=some none
 tail:∀u,s<u→u<ts.length→T[(h+u)%ts.length]?=ts[(h+u)%ts.length]?
 stop:ts[(h+D)%ts.length]?=some none
 go:∀u,0<u→u<D→∃r id,ah.at ts ((h+u)%ts.length) r id
 c9:∀i j r id id',ah.at T i r id→ah.at T j r id'→i=j
 mem:∀r id,ah.has T r id↔ah.has ts r id∧r≠k
 e1:∀v r id,v<ts.length→ah.at T ((h+v)%ts.length) r id→∃d,d<ts.length∧(H r ts.length+d)%ts.length=(h+v)%ts.length ∧
  ∀e,e<d→(∃r' id',ah.at T ((H r ts.length+e)%ts.length) r' id')∨((H r ts.length+e)%ts.length=(h+s)%ts.length∧t≤v)
 occ:occ T+1=occ ts

theorem pD {h n i:Nat}(hi:i<n):∃v,v<n∧(h+v)%n=i:=mR hi

theorem kT {ts:ah}{i:Nat}{r:Rec}{id:Int}(h:ah.at ts i r id):occ (ts.set i none)+1=occ ts:=by
 unfold occ ah.at at *;obtain⟨hi,j⟩:=List.getElem?_eq_some_iff.1 h;rw[List.countP_set hi,j];have:0<List.countP (fun x=>x.isSome) ts:=List.countP_pos_iff.2 ⟨_,List.getElem_mem hi,by rw[j];rfl⟩;simp;omega

theorem yg {ts:ah}{i:Nat}{r:Rec}{id:Int}(h:ts[i]?=some none):occ (ts.set i (some (r,id)))=occ ts+1:=by
 unfold occ;obtain⟨hi,j⟩:=List.getElem?_eq_some_iff.1 h;rw[List.countP_set hi,j];simp

theorem dP.start {H:Rec→Nat→Nat}{ts:ah}(z:dI H ts){h:Nat}{k:Rec}{J:Int}{D:Nat}(s:h<ts.length)(t:ah.at ts h k J)(K:1≤D)(L:D<ts.length)(U:ts[(h+D)%ts.length]?=some none)(O:∀u,0<u→u<D→∃r id,ah.at ts ((h+u)%ts.length) r id) :
  dP H ts h k D 0 1 (ts.set h none):=by
 have q:(h+0)%ts.length=h:=Nat.mod_eq_of_lt (by omega)
 have j:∀i r id,ah.at (ts.set h none) i r id↔i≠h∧ah.at ts i r id:=by
  intro i r id;unfold ah.at;rw[eQ s];by_cases e:i=h;·simp[e]
  ·simp[e]
 refine⟨List.length_set,by omega,K,L,?_,fun u Z W=>?_,U,O,?_,?_,?_,kT t⟩
 ·rw[q,eQ s,if_pos rfl]
 ·rw[eQ s,if_neg];intro e;have:=dS (a:=h) W (show 0<ts.length by omega) (by rw[e,q]);omega
 ·intro i s r id E a b;exact z.c9 i s r id E ((j _ _ _).1 a).2 ((j _ _ _).1 b).2
 ·intro r id;constructor
  ·rintro⟨i,hi⟩;obtain⟨a,b⟩:=(j _ _ _).1 hi;refine⟨⟨i,b⟩,fun e=>a ?_⟩;subst e;exact z.c9 i h r id J b t
  ·rintro⟨⟨i,hi⟩,s⟩;refine⟨i,(j _ _ _).2 ⟨fun e=>s ?_,hi⟩⟩;subst e;exact(lW hi t).1
 ·intro v r id s N;obtain⟨a,b⟩:=(j _ _ _).1 N;obtain⟨d,s,t,T⟩:=z.e1 _ r id b;refine⟨d,s,t.symm,fun e S=>?_⟩;obtain⟨Y,E,X⟩:=T e S;by_cases I:(H r ts.length+e)%ts.length=h
  ·right;refine⟨by rw[I,q],?_⟩;rcases Nat.eq_zero_or_pos v with A|A;·subst A;exact absurd q a
   ·exact A
  ·left;exact⟨Y,E,(j _ _ _).2 ⟨I,X⟩⟩

theorem dP.hd {H:Rec→Nat→Nat}{ts:ah}{h:Nat}{k:Rec}{D z T:Nat}{q:ah}(hS:dP H ts h k D z T q){v u e d:Nat}{r:Rec}{id:Int}(L:v<ts.length)(s:ah.at q ((h+v)%ts.length) r id)
  (I:d<ts.length) (J:(H r ts.length+d)%ts.length=(h+v)%ts.length) (W:∀e,e<d→(∃S O,ah.at q ((H r ts.length+e)%ts.length) S O)∨((H r ts.length+e)%ts.length=(h+z)%ts.length∧T≤v))
  (K:e<d) (X:u<D) (t:(H r ts.length+e)%ts.length=(h+u)%ts.length):u+(d-e)=v∧v<D:=by
 have A:=hS.Dn
 have T:=hS.st
 have T:=hS.tD
 have E:q[(h+D)%ts.length]?=some none:=(hS.tail D (by omega) A).trans hS.stop
 have key:¬D≤u+(d-e):=by
  intro q;by_cases U:u+(d-e)=D
  ·rcases kX (Nat.le_of_lt K) I (by omega) L t J with hp|hp
   ·unfold ah.at at s;rw[←hp,U,E]at s;cases s
   ·omega
  ·have N:(H r ts.length+(e+(D-u)))%ts.length=(h+D)%ts.length:=by
    rw[yB t,show u+(D-u)=D by omega]
   rcases W (e+(D-u)) (by omega)with⟨S,O,j⟩|⟨j,_⟩
   ·unfold ah.at at j;rw[N,E]at j;cases j
   ·rw[N]at j;have:=dS (a:=h) A (show z<ts.length by omega) j;omega
 rcases kX (Nat.le_of_lt K) I (by omega) L t J with hp|hp
 ·exact⟨hp,by omega⟩
 ·omega

theorem dP.done {H:Rec→Nat→Nat}{ts:ah}{h:Nat}{k:Rec}{D E:Nat}{j:ah}(hS:dP H ts h k D E D j):dI H j:=by
 refine⟨hS.c9,?_⟩;intro i r id hi;have I:i<ts.length:=by rw[←hS.len];exact(List.getElem?_eq_some_iff.1 hi).1
 obtain⟨v,A,rfl⟩:=pD (h:=h) I;obtain⟨d,q,s,z⟩:=hS.e1 v r id A hi;rw[hS.len];refine⟨d,q,s.symm,fun e t=>?_⟩;rcases z e t with j|⟨j,I⟩;·exact j
 ·have:=hS.hd A hi q s z t (u:=E) (by have:=hS.st;omega) j;omega

theorem dP.a8 {H:Rec→Nat→Nat}{ts:ah}{h:Nat}{k:Rec}{D s j:Nat}{J:ah}(hS:dP H ts h k D s j J)(ad:j<D){r:Rec}{id:Int}(O:ah.at ts ((h+j)%ts.length) r id){d:Nat}(S:d<ts.length)(T:(H r ts.length+d)%ts.length=(h+j)%ts.length)(ab:d<j-s) :
  dP H ts h k D s (j+1) J:=by
 have J:=hS.Dn
 have Y:=hS.st
 refine⟨hS.len,by omega,by omega,hS.Dn,hS.gb,hS.tail,hS.stop,hS.go,hS.c9,hS.mem,?_,hS.occ⟩
 intro v I L E A
 obtain⟨d',t,z,W⟩:=hS.e1 v I L E A
 refine⟨d',t,z,fun e K=>?_⟩
 rcases W e K with q|⟨q,J⟩
 ·exact .inl q
 ·right;refine⟨q,?_⟩;rcases Nat.lt_or_ge j v with J|J;·exact J
  ·exfalso;have Z:v=j:=(by omega);subst Z
   have X:ah.at ts ((h+v)%ts.length) I L:=by
    unfold ah.at at A ⊢;rw[←hS.tail v Y E];exact A
   obtain⟨N,j⟩:=lW X O;subst N;have U:d'=d:=dS (a:=H I ts.length) t S (by rw[z,T]);subst U;rcases kX (Nat.le_of_lt K) t (show s<ts.length by omega) E q z with hp|hp;·omega
   ·omega

theorem dP.move {H:Rec→Nat→Nat}{ts:ah}{h:Nat}{k:Rec}{D s j:Nat}{I:ah}(hS:dP H ts h k D s j I)(bv:j<D){r:Rec}{id:Int}(a7:ah.at ts ((h+j)%ts.length) r id){d:Nat}(bp:d<ts.length)(bq:(H r ts.length+d)%ts.length=(h+j)%ts.length)(bx:j-s≤d) :
  dP H ts h k D j (j+1) ((I.set ((h+s)%ts.length) (some (r,id))).set ((h+j)%ts.length) none):=by
 have bn:=hS.Dn
 have bt:=hS.st
 have ab:=hS.len
 have ad:0<ts.length:=by omega
 have am:(h+s)%ts.length<I.length:=by rw[ab];exact Nat.mod_lt _ ad
 have av:(h+j)%ts.length<I.length:=by rw[ab];exact Nat.mod_lt _ ad
 have a':(h+s)%ts.length≠(h+j)%ts.length:=fun e=>by
  have:=dS (a:=h) (show s<ts.length by omega) (show j<ts.length by omega) e;omega
 have L:ah.at I ((h+j)%ts.length) r id:=by
  unfold ah.at at a7 ⊢;rw[hS.tail j bt (by omega)];exact a7
 have J:∀i q t,ah.at ((I.set ((h+s)%ts.length) (some (r,id))).set ((h+j)%ts.length) none) i q t↔(i=(h+s)%ts.length∧q=r∧t=id)∨(i≠(h+s)%ts.length∧i≠(h+j)%ts.length∧ah.at I i q t):=by
  intro i q t;unfold ah.at;rw[eQ (by rw[List.length_set];exact av),eQ am];by_cases E:i=(h+j)%ts.length
  ·rw[if_pos E];constructor;·intro A;cases A
   ·rintro(⟨z,_⟩|⟨_,T,_⟩);·exact absurd (z.symm.trans E) a'
    ·exact absurd E T
  ·rw[if_neg E];by_cases z:i=(h+s)%ts.length
   ·rw[if_pos z];constructor;·intro A;cases A;exact .inl ⟨z,rfl,rfl⟩
    ·rintro(⟨_,rfl,rfl⟩|⟨T,_⟩);·rfl
     ·exact absurd z T
   ·rw[if_neg z];constructor;·intro A;exact .inr ⟨z,E,A⟩
    ·rintro(⟨T,_⟩|⟨_,_,A⟩);·exact absurd T z
     ·exact A
 have a6:∀q t,¬ah.at I ((h+s)%ts.length) q t:=fun q t A=>by
  unfold ah.at at A;rw[hS.gb]at A;cases A
 have T:∀i q t,ah.at ((I.set ((h+s)%ts.length) (some (r,id))).set ((h+j)%ts.length) none) i q t→∃X,ah.at I X q t∧(q=r→X=(h+j)%ts.length)∧(q≠r→X=i):=by
  intro i q t A;rcases(J _ _ _).1 A with⟨_,rfl,rfl⟩|⟨a,b,c⟩
  ·exact⟨_,L,fun _=>rfl,fun e=>absurd rfl e⟩
  ·refine⟨i,c,fun e=>?_,fun _=>rfl⟩;subst e;exact hS.c9 _ _ _ _ _ c L
 refine⟨by rw[List.length_set,List.length_set];exact ab,by omega,by omega,bn,?_,fun u A U=>?_,hS.stop,hS.go,?_,?_,?_,?_⟩
 ·rw[eQ (by rw[List.length_set];exact av),if_pos rfl]
 ·have A:(h+u)%ts.length≠(h+j)%ts.length:=fun e=>by
   have:=dS (a:=h) U (show j<ts.length by omega) e;omega
  have T:(h+u)%ts.length≠(h+s)%ts.length:=fun e=>by
   have:=dS (a:=h) U (show s<ts.length by omega) e;omega
  rw[eQ (by rw[List.length_set];exact av),if_neg A,eQ am,if_neg T];exact hS.tail u (by omega) U
 ·intro i X q t A a b;rcases(J _ _ _).1 a with⟨rfl,rfl,rfl⟩|⟨be,a3,S⟩<;>rcases(J _ _ _).1 b with⟨rfl,E,z⟩|⟨A,bg,a4⟩
  ·rfl
  ·exact absurd (hS.c9 _ _ _ _ _ a4 L) bg
  ·subst E;exact absurd (hS.c9 _ _ _ _ _ S L) a3
  ·exact hS.c9 _ _ _ _ _ S a4
 ·intro q t;rw[←hS.mem q t];constructor
  ·rintro⟨i,hi⟩;rcases(J _ _ _).1 hi with⟨_,rfl,rfl⟩|⟨_,_,c⟩
   ·exact⟨_,L⟩
   ·exact⟨i,c⟩
  ·rintro⟨i,hi⟩;by_cases E:i=(h+j)%ts.length
   ·subst E;obtain⟨rfl,rfl⟩:=lW hi L;exact⟨_,(J _ _ _).2 (.inl ⟨rfl,rfl,rfl⟩)⟩
   ·refine⟨i,(J _ _ _).2 (.inr ⟨fun e=>?_,E,hi⟩)⟩;subst e;exact a6 _ _ hi
 ·intro v q t aw bs;rcases(J _ _ _).1 bs with⟨E,rfl,rfl⟩|⟨be,a3,S⟩
  ·have bw:v=s:=dS (a:=h) aw (show s<ts.length by omega) E;subst bw;obtain⟨d',N,O,W⟩:=hS.e1 j q t (by omega) L;have br:d'=d:=dS (a:=H q ts.length) N bp (by rw[O,bq]);subst br
   have a8:(H q ts.length+(d'-(j-v)))%ts.length=(h+v)%ts.length:=by
    obtain⟨u,U,bb⟩:=pD (h:=h) (i:=(H q ts.length+(d'-(j-v)))%ts.length) (n:=ts.length) (Nat.mod_lt _ ad);rcases kX (H:=H q ts.length) (h:=h) (d:=d'-(j-v)) (D:=d') (by omega) N U (show j<ts.length by omega) bb.symm O with hp|hp;·rw[←bb,show u=v by omega]
    ·omega
   refine⟨d'-(j-v),by omega,a8,fun e Z=>?_⟩;left;rcases W e (by omega)with⟨a2,a1,K⟩|⟨K,_⟩
   ·refine⟨a2,a1,(J _ _ _).2 (.inr ⟨fun z=>?_,fun z=>?_,K⟩)⟩;·rw[z]at K;exact a6 _ _ K
    ·have:=dS (a:=H q ts.length) (show e<ts.length by omega) N (by rw[z,O]);omega
   ·have:=dS (a:=H q ts.length) (show e<ts.length by omega) (show d'-(j-v)<ts.length by omega) (by rw[K,a8]);omega
  ·obtain⟨d',N,O,W⟩:=hS.e1 v q t aw S;refine⟨d',N,O,fun e Z=>?_⟩;by_cases Y:(H q ts.length+e)%ts.length=(h+j)%ts.length
   ·right;have:=hS.hd aw S N O W Z (u:=j) bv Y;exact⟨Y,by omega⟩
   ·left;rcases W e Z with⟨a2,a1,K⟩|⟨K,_⟩
    ·by_cases a5:(H q ts.length+e)%ts.length=(h+s)%ts.length;·exact⟨r,id,(J _ _ _).2 (.inl ⟨a5,rfl,rfl⟩)⟩
     ·exact⟨a2,a1,(J _ _ _).2 (.inr ⟨a5,Y,K⟩)⟩
    ·exact⟨r,id,(J _ _ _).2 (.inl ⟨K,rfl,rfl⟩)⟩
 ·have q:=yg (r:=r) (id:=id) hS.gb
  have bi:ah.at (I.set ((h+s)%ts.length) (some (r,id))) ((h+j)%ts.length) r id:=by
   unfold ah.at;rw[eQ am,if_neg (fun e=>a' e.symm)];exact L
  have j:=kT bi;have j:=hS.occ;omega

open Go.RowKit

theorem xL (x:Int)(p:Nat)(j:p≤22):bits BinOp.and IntKind.i64 x (2 ^ p-1)=x%2 ^ p:=by
 have q:IntKind.i64.bits=64:=rfl;have z:(2:Nat) ^ p≤2 ^ 22:=Nat.pow_le_pow_right (by decide) j;have t:0<(2:Nat) ^ p:=Nat.two_pow_pos p;have j:(2:Nat) ^ 22=4194304:=rfl;have j:(2:Nat) ^ 64=18446744073709551616:=rfl;have s:((2:Int) ^ p-1)=((2 ^ p-1:Nat):Int):=by rw[Int.natCast_sub t];simp
 have t:(2:Nat) ^ p ∣ 2 ^ 64:=Nat.pow_dvd_pow 2 (by omega);have j:0≤x%(2 ^ 64:Nat):=Int.emod_nonneg _ (by decide)
 have key:((x%(2 ^ 64:Nat)).toNat%2 ^ p:Nat)=(x%2 ^ p).toNat:=by
  have z:(((x%(2 ^ 64:Nat)).toNat%2 ^ p:Nat):Int)=x%2 ^ p:=by
   rw[Int.natCast_emod,Int.toNat_of_nonneg j];have j:((2 ^ p:Nat):Int) ∣ ((2 ^ 64:Nat):Int):=Int.natCast_dvd_natCast.2 t;rw[Int.emod_emod_of_dvd x j];simp
  omega
 have j:0≤x%2 ^ p:=Int.emod_nonneg _ (by have:(2:Int) ^ p=((2 ^ p:Nat):Int):=(by simp);omega)
 have j:x%2 ^ p<4194304:=by
  have j:(2:Int) ^ p=((2 ^ p:Nat):Int):=by simp
  have:=Int.emod_lt_of_pos x (show(0:Int)<2 ^ p by omega);omega
 rw[s];simp only[bits,BitVec.toNat_and,BitVec.toNat_ofInt,q,BitVec.ofInt_natCast,BitVec.toNat_ofNat];rw[Nat.mod_eq_of_lt (show 2 ^ p-1<2 ^ 64 by omega),Nat.and_two_pow_sub_one_eq_mod,key,IntKind.wrap_i64];omega

theorem o0 (i h p len:Nat)(j:len=2 ^ p)(s:len≤4194304)(t:h<len):bits BinOp.and IntKind.i64 ((i:Int)-(h:Int)) ((len:Int)-1)=(((i+len-h)%len:Nat):Int):=by
 have q:p≤22:=by
  rcases Nat.lt_or_ge 22 p with h|h
  ·have:=Nat.pow_lt_pow_right (a:=2) (by decide) h;omega
  ·exact h
 have e:(len:Int)=2 ^ p:=by rw[j];simp
 have j:((i+len-h:Nat):Int)=((i:Int)-h)+len:=by omega
 rw[Int.natCast_emod,j,Int.add_emod_right,e];exact xL _ p q

structure cJ (w wr:World)(ib tb cap:Nat)(ts:ah)(cnt:Int)(h:Nat)(k:Rec)(D s t:Nat)(T:ah):Prop where
 heap:wr.heap[ib]?=some (.cells #[.slice (some ⟨tb,0,none⟩) ts.length cap,.int .i64 (cnt-1)] 255 (0,0))
 row:∃q iq,wr.ownsRow 0 274 9 (.slice (some ⟨tb,0,none⟩) ts.length cap) ts.length ((T.set ((h+s)%ts.length) (some (q,iq))).flatMap aU)
 av:ae (fun x=>x=ib∨x=tb) w wr
 sh:dP aX ts h k D s t T

theorem cJ.U {w wr s:World}{ib E cap:Nat}{ts:ah}{t:Int}{h:Nat}{k:Rec}{D z A:Nat}{q:ah}(I:cJ w wr ib E cap ts t h k D z A q)(j:aa wr s):cJ w s ib E cap ts t h k D z A q:=by
 obtain⟨q,⟨E,A,s⟩,t,z⟩:=I;exact⟨j.heap q,⟨E,A,j.br s⟩,t.a' (j.av _),z⟩

theorem o3 {home i n:Nat}(q:home<n)(j:i<n):(i+n-home)%n<n∧(home+(i+n-home)%n)%n=i:=by
 refine⟨Nat.mod_lt _ (by omega),?_⟩;rw[Nat.add_mod_mod,show home+(i+n-home)=i+n by omega,Nat.add_mod_right,Nat.mod_eq_of_lt j]

theorem uU {h j q n:Nat}(s:j≤q)(t:q<n):((h+q)%n+n-(h+j)%n)%n=q-j:=by
 have s:0<n:=by omega
 have z:=Nat.mod_lt (h+j) s;have A:=Nat.mod_lt (h+q) s;obtain⟨s,t⟩:=o3 z A;refine dS (a:=(h+j)%n) s (by omega) ?_;rw[t,Nat.mod_add_mod,show h+j+(q-j)=h+q by omega]

theorem cJ.e9 {w wr:World}{ib A cap:Nat}{ts:ah}{I:Int}{h:Nat}{k:Rec}{D s j:Nat}{z:ah}(t:cJ w wr ib A cap ts I h k D s j z){c:Option (Rec×Int)}(J:ts[(h+j)%ts.length]?=some c)(E:j<ts.length) :
  ∀q,q<9→wr.cell? ⟨A,(h+j)%ts.length*9+q,none⟩=(aU c)[q]?:=by
 intro q K
 obtain⟨T,S,N⟩:=t.row
 have O:=t.sh.st
 have A:0<ts.length:=by omega
 have I:=Nat.mod_lt (h+j) A
 have I:=Nat.mod_lt (h+s) A
 have L:(h+j)%ts.length≠(h+s)%ts.length:=fun e=>by
  have:=dS (a:=h) E (show s<ts.length by omega) e;omega
 have A:(z.set ((h+s)%ts.length) (some (T,S)))[(h+j)%ts.length]?=some c:=by
  rw[eQ (by rw[t.sh.len];exact I),if_neg L,t.sh.tail j O E];exact J
 rw[N.cellAt ((h+j)%ts.length*9+q) (by omega)]
 exact eA aU 9 dZ _ _ q c A K

theorem cJ.hn {w wr:World}{ib E cap:Nat}{ts:ah}{I:Int}{h:Nat}{k:Rec}{D q N:Nat}{A:ah}(s:cJ w wr ib E cap ts I h k D q N A) :
  ∃z t,∀j,j<9→wr.cell? ⟨E,(h+q)%ts.length*9+j,none⟩=(aU (some (z,t)))[j]?:=by
 obtain⟨z,t,L⟩:=s.row
 have E:=s.sh.st
 have E:=s.sh.tD
 have E:=s.sh.Dn
 have I:0<ts.length:=by omega
 have E:=Nat.mod_lt (h+q) I
 refine⟨z,t,fun j K=>?_⟩
 have J:(A.set ((h+q)%ts.length) (some (z,t)))[(h+q)%ts.length]?=some (some (z,t)):=by
  rw[eQ (by rw[s.sh.len];exact E),if_pos rfl]
 rw[L.cellAt ((h+q)%ts.length*9+j) (by omega)]
 exact eA aU 9 dZ _ _ j _ J K

theorem cJ.fz {w wr:World}{ib q cap:Nat}{ts:ah}{t:Int}{h:Nat}{k:Rec}{D A E:Nat}{s:ah}(z:cJ w wr ib q cap ts t h k D A E s)(j:Nat):wr.frozen? ⟨q,j,none⟩=false:=by
 obtain⟨t,s,q⟩:=z.row;exact q.frozenAt j

theorem nS {j:ah}{i:Nat}{c:Option (Rec×Int)}(h:j[i]?=some c):j.set i c=j:=by
 obtain⟨hi,j⟩:=List.getElem?_eq_some_iff.1 h;rw[←j,List.set_getElem_self]

theorem cJ.move {w wr:World}{ib z cap:Nat}{ts:ah}{E:Int}{h:Nat}{k:Rec}{D q j:Nat}{t:ah}(s:cJ w wr ib z cap ts E h k D q j t)(S:z≠ib)(W:j<D){r:Rec}{id:Int}(A:ah.at ts ((h+j)%ts.length) r id)
  {d:Nat} (L:d<ts.length) (N:(aX r ts.length+d)%ts.length=(h+j)%ts.length) (O:j-q≤d) :
  cJ w (cW wr z ((h+q)%ts.length*9) (aU (some (r,id)))) ib z cap ts E h k D j (j+1) ((t.set ((h+q)%ts.length) (some (r,id))).set ((h+j)%ts.length) none):=by
 obtain⟨X,E,U⟩:=s.row
 have T:=s.sh.st
 have E:=s.sh.Dn
 have E:0<ts.length:=by omega
 have I:=Nat.mod_lt (h+q) E
 have X:=Nat.mod_lt (h+j) E
 have J:=iw z (aU (some (r,id))) ((h+q)%ts.length*9) wr
 have K:ah.at t ((h+j)%ts.length) r id:=by
  unfold ah.at at A ⊢;rw[s.sh.tail j T (by omega)];exact A
 have T:(h+j)%ts.length≠(h+q)%ts.length:=fun e=>by
  have:=dS (a:=h) (show j<ts.length by omega) (show q<ts.length by omega) e;omega
 have z:=jc aU dZ (by rw[List.length_set];exact s.sh.len) U ((h+q)%ts.length) I (some (r,id))
 rw[List.set_set]at z
 have E:((t.set ((h+q)%ts.length) (some (r,id))).set ((h+j)%ts.length) none).set ((h+j)%ts.length) (some (r,id))=t.set ((h+q)%ts.length) (some (r,id)):=by
  rw[List.set_set];refine nS ?_;rw[eQ (by rw[s.sh.len];exact I),if_neg T];exact K
 refine⟨?_,⟨r,id,?_⟩,s.av.a' (J.mono (fun x _ e=>.inr e)),s.sh.move W A L N O⟩
 ·exact(J.block ib (aN s.heap) (fun e=>S e.symm)).trans s.heap
 ·rw[E];exact z

theorem cJ.a8 {w wr:World}{ib A cap:Nat}{ts:ah}{z:Int}{h:Nat}{k:Rec}{D s j:Nat}{t:ah}(q:cJ w wr ib A cap ts z h k D s j t)(L:j<D){r:Rec}{id:Int}(E:ah.at ts ((h+j)%ts.length) r id)
  {d:Nat} (I:d<ts.length) (J:(aX r ts.length+d)%ts.length=(h+j)%ts.length) (K:d<j-s):cJ w wr ib A cap ts z h k D s (j+1) t:=
 ⟨q.heap,q.row,q.av,q.sh.a8 L E I J K⟩

theorem cJ.done {w wr:World}{ib q cap:Nat}{ts:ah}{z:Int}{h:Nat}{k:Rec}{D s:Nat}{t:ah}(j:cJ w wr ib q cap ts z h k D s D t)(A:q≠ib) :
  (cW wr q ((h+s)%ts.length*9) (aU none)).heap[ib]?=some (.cells #[.slice (some ⟨q,0,none⟩) t.length cap,.int .i64 (z-1)] 255 (0,0)) ∧
  (cW wr q ((h+s)%ts.length*9) (aU none)).ownsRow 0 274 9 (.slice (some ⟨q,0,none⟩) t.length cap) t.length (t.flatMap aU) ∧
  ae (fun x=>x=ib∨x=q) w (cW wr q ((h+s)%ts.length*9) (aU none)):=by
 obtain⟨z,t,E⟩:=j.row
 have t:=j.sh.st
 have t:=j.sh.Dn
 have t:0<ts.length:=by omega
 have z:=Nat.mod_lt (h+s) t
 have t:=iw q (aU none) ((h+s)%ts.length*9) wr
 have q:=jc aU dZ (by rw[List.length_set];exact j.sh.len) E ((h+s)%ts.length) z none
 rw[List.set_set,nS j.sh.gb]at q
 rw[j.sh.len]
 exact⟨(t.block ib (aN j.heap) (fun e=>A e.symm)).trans j.heap,q,j.av.a' (t.mono (fun x _ e=>.inr e))⟩

theorem cJ.start {w wr:World}{ib j cap:Nat}{ts:ah}{q:Int}{h:Nat}{k:Rec}{s:Int}{D:Nat}(t:h<ts.length)(z:ah.at ts h k s)(hS:dP aX ts h k D 0 1 (ts.set h none))
  (heap:wr.heap[ib]?=some (.cells #[.slice (some ⟨j,0,none⟩) ts.length cap,.int .i64 (q-1)] 255 (0,0))) (row:wr.ownsRow 0 274 9 (.slice (some ⟨j,0,none⟩) ts.length cap) ts.length (ts.flatMap aU)) (A:ae (fun x=>x=ib∨x=j) w wr) :
  cJ w wr ib j cap ts q h k D 0 1 (ts.set h none):=by
 refine⟨heap,⟨k,s,?_⟩,A,hS⟩
 rw[show(h+0)%ts.length=h from Nat.mod_eq_of_lt t,List.set_set,nS z]
 exact row

theorem vZ {w:World}{ib j cap:Nat}{ts:ah}{J:Int}(h:Nat)(k:Rec)(ds:k.ok)(dl:Int)(D p:Nat)(O:w.heap[ib]?=some (.cells #[.slice (some ⟨j,0,none⟩) ts.length cap,.int .i64 J] 255 (0,0)))
  (a1:w.ownsRow 0 274 9 (.slice (some ⟨j,0,none⟩) ts.length cap) ts.length (ts.flatMap aU)) (am:8≤ts.length) (U:ts.length≤4194304) (b5:ts.length=2 ^ p) (dB:1≤J) (d0:J≤4194304) (a':h<ts.length) (a5:ah.at ts h k dl)
  (b2:∀r id,ah.has ts r id→r.ok∧0≤id∧id≤4294967295) (hS:dP aX ts h k D 0 1 (ts.set h none))
  (b1:∀T,aa w T→Calls Tryz.prog 200 #[.pointer (some ⟨ib,0,none⟩),.agg #[.int .u8 k.ad,.int .u8 k.I,.int .u8 k.J,.int .u8 k.lo.tag,.int .u32 k.lo.to,.int .u8 k.hi.tag,.int .u32 k.hi.to]] T fun e w'=>e=.returned (.int .i64 (h:Int))∧aa T w') :
  Calls Tryz.prog 166 #[.pointer (some ⟨ib,0,none⟩),.agg #[.int .u8 k.ad,.int .u8 k.I,.int .u8 k.J,.int .u8 k.lo.tag,.int .u32 k.lo.to,.int .u8 k.hi.tag,.int .u32 k.hi.to]] w fun e w'=>e=.returned (.bool true)∧∃A N wr,cJ w wr ib j cap ts J h k D A D N∧w'=cW wr j ((h+A)%ts.length*9) (aU none):=by
 have br:w.cell? ⟨ib,0,none⟩=some (.slice (some ⟨j,0,none⟩) ts.length cap):=by rw[cell_of_row w ib 0 _ _ _ O];rfl
 have bs:w.cell? ⟨ib,1,none⟩=some (.int .i64 J):=by rw[cell_of_row w ib 1 _ _ _ O];rfl
 have bw:w.frozen? ⟨ib,1,none⟩=false:=frozen_of_row w ib 1 _ _ O
 have cq:=aN O
 obtain⟨dl,a7⟩:=bM a1 (k:=j) rfl
 have dl:=aN a7
 have b4:ib≠j:=dq O a7 (by decide)
 have b9:=(a1.cellAt (h*9+8) (by omega)).trans (eA aU 9 dZ ts h 8 _ a5 (by omega))
 have bt:w.cell? ⟨j,h*9+8,none⟩=some (.bool true):=b9.trans rfl
 have dl:(h:Int)<(ts.length:Int):=by omega
 have cf:=Lib.hid O
 have ch:=Lib.hid a1
 have cd:=Lib.hid a5
 have ad:=Lib.hid hS
 have H:=Lib.hid b1
 have ce:=Lib.hid b2
 have S:=Lib.hid b5
 clear a7 O a1 a5 hS b1 b9 b2 b5
 go_enter Tryz.func166,Tryz.ntmps166
 go_wp2_with (first|(go_at_call 200;refine(H.out _ (by(exact kp))).mono ?_;rintro e w1 ⟨rfl,a6⟩;have K:aa w w1:=(((aa.refl _).alloc _).trans a6);have bv:=K.cell br;have ci:=K.cell bs;have cj:=K.cell bt;have cl:=(Below.frozen (p:=⟨ib,1,none⟩) K cq).trans bw)|(go_at_call 210;refine(kR ib j ts.length cap h p _ (by simp[go_sem,bv]) am U a' S.out).mono ?_;rintro e O ⟨rfl,rfl⟩)|fail)
 have bx:cJ w (w1.setCell ⟨ib,1,none⟩ (.int .i64 (J-1))) ib j cap ts J h k D 0 1 (ts.set h none):=by
  have b8:ae (fun x=>x=ib) w1 (w1.setCell ⟨ib,1,none⟩ (.int .i64 (J-1))):=ae.setCell (F:=fun x=>x=ib) (p:=⟨ib,1,none⟩) (ae.refl _ _) (Or.inl rfl) _;refine cJ.start a' cd.out ad.out ?_ ?_ ((K.av _).a' (b8.mono (fun x _ bn=>.inl bn)));·exact heap_setCell_same _ ib 1 _ _ _ (K.heap cf.out)
  ·exact b8.br (fun x bn e=>by simp[Value.ownBlock]at bn;omega) (K.br ch.out)
 have cg:=Lib.hid bx
 clear bx
 have O:=K.size
 clear a6 K bv ci cj cl br bs bt bw
 go_loopg [5,6] (D-1) (fun gk K O wr=>∃(A s o i:Nat) (N:ah),s+gk=D∧Hid (o=(h+A)%ts.length)∧Hid (i=(h+s)%ts.length)∧K=.int .i64 (o:Int)∧O=.int .i64 (i:Int)∧cJ w wr ib j cap ts J h k D A s N)
 case atStart=>
  have J:=ad.out.tD;exact⟨0,1,h,(h+1)%ts.length,_,by omega,Lib.hid (by rw[Nat.add_zero,Nat.mod_eq_of_lt a']),Lib.hid rfl,rfl,by simp,cg.out⟩
 case round=>
  obtain⟨A,s,o,i,N,d1,cx,cp,rfl,rfl,I⟩:=hrel;have hi:=cp.out;have L:=cx.out;have J:=I.sh.st;have J:=I.sh.tD;have J:=I.sh.Dn;have bi:0<ts.length:=by omega
  have be:i<ts.length:=by rw[hi];exact Nat.mod_lt _ bi
  have cy:o<ts.length:=by rw[L];exact Nat.mod_lt _ bi
  have J:(i:Int)<(ts.length:Int):=by omega
  have J:(o:Int)<(ts.length:Int):=by omega
  have cv:i≠o:=fun e=>by
   rw[hi,L]at e;have:=dS (a:=h) (show s<ts.length by omega) (show A<ts.length by omega) e;omega
  have a3:wr.cell? ⟨ib,0,none⟩=some (.slice (some ⟨j,0,none⟩) ts.length cap):=by rw[cell_of_row wr ib 0 _ _ _ I.heap];rfl
  have a8:=I.fz;obtain⟨K,J,E⟩:=I.hn;rw[←L]at E;have c6:wr.cell? ⟨j,o*9,none⟩=some _:=(E 0 (by omega)).trans rfl;have c7:wr.cell? ⟨j,o*9+1,none⟩=some _:=(E 1 (by omega)).trans rfl;have c8:wr.cell? ⟨j,o*9+2,none⟩=some _:=(E 2 (by omega)).trans rfl;have c9:wr.cell? ⟨j,o*9+3,none⟩=some _:=(E 3 (by omega)).trans rfl;have c':wr.cell? ⟨j,o*9+4,none⟩=some _:=(E 4 (by omega)).trans rfl;have da:wr.cell? ⟨j,o*9+5,none⟩=some _:=(E 5 (by omega)).trans rfl;have db:wr.cell? ⟨j,o*9+6,none⟩=some _:=(E 6 (by omega)).trans rfl;have dj:wr.cell? ⟨j,o*9+7,none⟩=some _:=(E 7 (by omega)).trans rfl;have dk:wr.cell? ⟨j,o*9+8,none⟩=some _:=(E 8 (by omega)).trans rfl;have Z:=Lib.hid I;by_cases bg:s<D
  ·obtain⟨z,a2,aw⟩:=ad.out.go s (by omega) bg;have t:=I.e9 aw (by omega);rw[←hi]at t;have cD:z.ok:=(ce.out z a2 ⟨_,aw⟩).1;have b6:wr.cell? ⟨j,i*9,none⟩=some (.int .u8 z.ad):=(t 0 (by omega)).trans rfl;have cS:wr.cell? ⟨j,i*9+1,none⟩=some (.int .u8 z.I):=(t 1 (by omega)).trans rfl;have c0:wr.cell? ⟨j,i*9+2,none⟩=some (.int .u8 z.J):=(t 2 (by omega)).trans rfl;have c1:wr.cell? ⟨j,i*9+3,none⟩=some (.int .u8 z.lo.tag):=(t 3 (by omega)).trans rfl;have c2:wr.cell? ⟨j,i*9+4,none⟩=some (.int .u32 z.lo.to):=(t 4 (by omega)).trans rfl;have c3:wr.cell? ⟨j,i*9+5,none⟩=some (.int .u8 z.hi.tag):=(t 5 (by omega)).trans rfl;have c4:wr.cell? ⟨j,i*9+6,none⟩=some (.int .u32 z.hi.to):=(t 6 (by omega)).trans rfl;have c5:wr.cell? ⟨j,i*9+7,none⟩=some (.int .u32 a2):=(t 7 (by omega)).trans rfl;have b7:wr.cell? ⟨j,i*9+8,none⟩=some (.bool true):=(t 8 (by omega)).trans rfl;obtain⟨W,av⟩:∃W,W=aX z ts.length:=⟨_,rfl⟩;have b3:W<ts.length:=(by rw[av];exact Nat.mod_lt _ bi);have bb:=fun(T:World) (J:aa wr T)=>pt ib j ts.length cap p z cD T (J.cell a3) am U S.out;rw[←av]at bb;have bp:=Lib.hid bb;obtain⟨d,b0⟩:∃d,d=(i+ts.length-W)%ts.length:=⟨_,rfl⟩;have O:=o0 i W p ts.length S.out U b3;have T:=o0 i o p ts.length S.out U cy;have J:=o3 b3 be;have K:(i+ts.length-o)%ts.length=s-A:=(by rw[hi,L];exact uU (by omega) (by omega));rw[K]at T;rw[←b0]at O J;have bq:=Lib.hid (show ah.at ts ((h+s)%ts.length) z a2 from aw);have X:=Lib.hid (show d<ts.length∧(aX z ts.length+d)%ts.length=(h+s)%ts.length from⟨J.1,by rw[←av,J.2,hi]⟩);have Y:=Lib.hid hi;have ab:=Lib.hid L;clear aw t E I bb b0 J hi L av K a8;have a8:=Z.out.fz;have J:∀a b:Nat,a<9→b<9→i*9+a≠o*9+b:=fun a b J a6 e=>cv (by omega);by_cases co:d<s-A
   ·have cn:¬((s-A:Nat):Int)≤(d:Int):=(by omega);go_wp2_with (first|(go_at_call 211;refine(bp.out _ (by(exact kp))).mono ?_;rintro e cb ⟨rfl,q⟩;have a4:=q.cell a3)|(go_at_call 210;refine(kR ib j ts.length cap i p _ a4 am U be S.out).mono ?_;rintro e dr ⟨rfl,rfl⟩)|fail)
    go_roundg (gk-1)
    case rel=>exact⟨A,s+1,o,(i+1)%ts.length,N,by omega,ab,Lib.hid (by rw[Y.out,Nat.mod_add_mod];rfl),rfl,by simp,(Z.out.a8 bg bq.out X.out.1 X.out.2 co).U q⟩
    case measure=>omega
   ·have cn:((s-A:Nat):Int)≤(d:Int):=(by omega);go_wp2_with fail
    refine(bp.out _ (by(exact kp))).mono ?_;rintro e cb ⟨rfl,q⟩;have a4:=q.cell a3;have ca:=aD b6;dsimp only at ca;have J:∀J,cb.frozen? ⟨j,J,none⟩=false:=fun J=>(Below.frozen (p:=⟨j,J,none⟩) q ca).trans (a8 J);have J:=q.cell b6;have J:=q.cell c6;have J:=q.cell cS;have J:=q.cell c7;have J:=q.cell c0;have J:=q.cell c8;have J:=q.cell c1;have J:=q.cell c9;have J:=q.cell c2;have J:=q.cell c';have J:=q.cell c3;have J:=q.cell da;have J:=q.cell c4;have J:=q.cell db;have J:=q.cell c5;have J:=q.cell dj;have J:=q.cell b7;have J:=q.cell dk;go_wp2_with fail
    go_region
    go_wp2_with (first|(go_at_call 210;refine(kR ib j ts.length cap i p _ (by simp[go_sem,a4,b4]) am U be S.out).mono ?_;rintro e dr ⟨rfl,rfl⟩)|fail)
    go_roundg (gk-1)
    case rel=>
     refine⟨s,s+1,i,(i+1)%ts.length,(N.set o (some (z,a2))).set i none,by omega,Y,Lib.hid (by rw[Y.out,Nat.mod_add_mod];rfl),rfl,by simp,?_⟩;have z:=(Z.out.U q).move (fun e=>b4 e.symm) bg bq.out X.out.1 X.out.2 (by omega);rw[←ab.out,←Y.out]at z;exact z.U (aa.refl _).drew
    case measure=>omega
  ·obtain rfl:s=D:=(by omega);have t:=I.e9 ad.out.stop (by omega);rw[←hi]at t;have b7:wr.cell? ⟨j,i*9+8,none⟩=some (.bool false):=(t 8 (by omega)).trans rfl;have ab:=Lib.hid L;clear t E I hi L;go_wp2_with fail
   go_ret
   refine⟨rfl,A,N,wr,Z.out,?_⟩;rw[←ab.out];rfl

theorem wv {F:Nat→Prop}{w:World}{ib:Nat}{ts:ah}{n:Int}(h:cQ F w ib ts n)(br:n=(occ ts:Int))(r:Rec)(aw:r.ok)(id:Int)(a':ah.has ts r id) :
  Calls Tryz.prog 166 #[.pointer (some ⟨ib,0,none⟩),.agg #[.int .u8 r.ad,.int .u8 r.I,.int .u8 r.J,.int .u8 r.lo.tag,.int .u32 r.lo.to,.int .u8 r.hi.tag,.int .u32 r.hi.to]] w fun e w'=>e=.returned (.bool true)∧ae F w w' ∧
   ∃E,cQ F w' ib E (n-1)∧n-1=(occ E:Int)∧∀j q,ah.has E j q↔ah.has ts j q∧j≠r:=by
 obtain⟨D,Y⟩:=kt (H:=aX) r h.room
 have s:=Y.ga h.ok a'
 have E:=h.eb
 have av:0<ts.length:=by omega
 obtain⟨k,J⟩:∃k:Nat,k=(aX r ts.length+D)%ts.length:=⟨_,rfl⟩
 have a7:∀E,aa w E→Calls Tryz.prog 200 #[.pointer (some ⟨ib,0,none⟩),.agg #[.int .u8 r.ad,.int .u8 r.I,.int .u8 r.J,.int .u8 r.lo.tag,.int .u32 r.lo.to,.int .u8 r.hi.tag,.int .u32 r.hi.to]] E fun e w'=>e=.returned (.int .i64 (k:Int))∧aa E w':=fun E E=>by
  rw[J];exact kB (h.U E) r aw D Y
 have K:k<ts.length:=by rw[J];exact Nat.mod_lt _ av
 rw[←J]at s
 obtain⟨e,ad⟩:=h.room
 obtain⟨a1,E,be⟩:=mR (h:=k) (List.getElem?_eq_some_iff.1 ad).1
 obtain⟨A,E,I,bg⟩:=pV (p:=fun d=>ts[(k+d)%ts.length]?=some none) (n:=a1) (by rw[be];exact ad)
 have a5:1≤A:=by
  rcases Nat.eq_zero_or_pos A with L|L
  ·subst L;rw[Nat.add_zero,Nat.mod_eq_of_lt K]at I;rw[I]at s;cases s
  ·exact L
 have a8:∀u,0<u→u<A→∃j q,ah.at ts ((k+u)%ts.length) j q:=fun u _ E=>by
  have z:=bg u E;have am:=Nat.mod_lt (k+u) av;cases ab:ts[(k+u)%ts.length]with
  |none=>exact(z (by rw[List.getElem?_eq_getElem am,ab])).elim
  |some x=>
   obtain⟨j,q⟩:=x;exact⟨j,q,by unfold ah.at;rw[List.getElem?_eq_getElem am,ab]⟩
 have hS:=dP.start h.ok K s a5 (by omega) I a8
 have E:1≤occ ts:=by
  have:=kT (ts:=ts) s;omega
 obtain⟨⟨N,cap,U,W,X⟩,O,⟨p,S⟩,a3,a4,E,I,T⟩:=h
 obtain⟨E,a6⟩:=bM W (k:=N) rfl
 have bi:N≠ib:=dq a6 U (by decide)
 refine(vZ k r aw id A p U W a3 a4 S (by omega) (by omega) K s T hS a7).mono ?_
 rintro s w' ⟨rfl,bs,a2,wr,Z,rfl⟩
 obtain⟨bn,bp,bq⟩:=Z.done bi
 have t:=Z.sh
 have bb:=t.len
 have s:=t.occ
 refine⟨rfl,bq.mono (fun x _ z=>by rcases z with rfl|rfl;exact O;exact X),a2,⟨⟨N,cap,bn,bp,X⟩,O,⟨p,by rw[bb];exact S⟩,by omega,by omega,by omega,t.done,fun j q z=>T j q ((t.mem j q).1 z).1⟩,by omega,t.mem⟩

theorem oI {j s:World}{v u:Value}{b o:Nat}{q:Obj}(A:(j.alloc q).grownBy s v.ownBlock)(I:v.ownBlock≠some b)(z:j.cell? ⟨b,o,none⟩=some u)(J:j.frozen? ⟨b,o,none⟩=false) :
  s.cell? ⟨b,o,none⟩=some u∧s.frozen? ⟨b,o,none⟩=false:=by
 have E:aa j (j.alloc q):=(aa.refl j).alloc q
 have t:=aD z
 dsimp only at t
 have s:b<(j.alloc q).heap.size:=by rw[World.size_alloc];omega
 exact⟨gO A I (E.cell z),mr A s I ((Below.frozen (p:=⟨b,o,none⟩) E t).trans J)⟩

theorem sC (q j:Nat)(id:Int)(r:Rec)(len cap:Nat)(z:Option Addr)(s A:Nat)(xs:List Value)(K room:Int)(w:World)(bb:2≤id)(be:id≤4294967295)
  (a8:w.cell? ⟨q,0,none⟩=some (.slice (some ⟨j,0,none⟩) len cap)) (a':w.cell? ⟨q,1,none⟩=some (.slice z s A)) (ab:w.cell? ⟨q,2,none⟩=some (.int .i64 K)) (b3:1≤K) (b4:K≤1048576)
  (bg:w.frozen? ⟨q,1,none⟩=false) (bi:w.frozen? ⟨q,2,none⟩=false) (bq:len≤1048576) (bp:id-2<(len:Int))
  (t:∀J,J<9→w.cell? ⟨j,(id-2).toNat*9+J,none⟩=(bZ (some r))[J]?) (b5:∀J,w.frozen? ⟨j,J,none⟩=false) (br:j≠q)
  (av:w.ownsRow 0 50 1 (.slice z s A) s xs) (b6:s≤1048576) (ad:Value.ownBlock (.slice z s A)≠some q) (am:Value.ownBlock (.slice z s A)≠some j) :
  Calls Tryz.prog 167 #[.pointer (some ⟨q,0,none⟩),.int .u32 id] w fun e w'=>e=.returned (.bool true)∧∃g L w1 a7,((cW w j ((id-2).toNat*9) (bZ none)).alloc a7).grownBy w1 (Value.ownBlock (.slice z s A))∧(Value.ownBlock (.slice z s A)=some g∨w.heap.size≤g) ∧
   w1.ownsRow 0 50 1 (.slice (some ⟨g,0,none⟩) (s+1) L) (s+1) (xs++[.int .u32 id])∧w'=(w1.setCell ⟨q,1,none⟩ (.slice (some ⟨g,0,none⟩) (s+1) L)).setCell ⟨q,2,none⟩ (.int .i64 (K-1)):=by
 obtain⟨o,I⟩:∃o,o=(id-2).toNat*9:=⟨_,rfl⟩
 rw[←I]at t ⊢
 have bx:w.cell? ⟨j,o,none⟩=some (.int .u8 r.ad):=(t 0 (by omega)).trans rfl
 have J:w.cell? ⟨j,o+1,none⟩=some (.int .u8 r.I):=(t 1 (by omega)).trans rfl
 have J:w.cell? ⟨j,o+2,none⟩=some (.int .u8 r.J):=(t 2 (by omega)).trans rfl
 have J:w.cell? ⟨j,o+3,none⟩=some (.int .u8 r.lo.tag):=(t 3 (by omega)).trans rfl
 have J:w.cell? ⟨j,o+4,none⟩=some (.int .u32 r.lo.to):=(t 4 (by omega)).trans rfl
 have J:w.cell? ⟨j,o+5,none⟩=some (.int .u8 r.hi.tag):=(t 5 (by omega)).trans rfl
 have J:w.cell? ⟨j,o+6,none⟩=some (.int .u32 r.hi.to):=(t 6 (by omega)).trans rfl
 have b0:w.cell? ⟨j,o+7,none⟩=some (.bool true):=(t 7 (by omega)).trans rfl
 have J:w.cell? ⟨j,o+8,none⟩=some (.int .i64 0):=(t 8 (by omega)).trans rfl
 have S:=fun(J:World) (K:aa w J)=>oM q j id len cap J bb be (K.cell a8) bq bp (by rw[←I];exact K.cell b0)
 rw[←I]at S
 have a3:=Lib.hid S
 obtain⟨bw,hi,bs,bt,bv⟩:=info_parts kC
 have K:q<w.heap.size:=aD ab
 have J:j<w.heap.size:=aD bx
 have E:=iw j (bZ none) o w
 have W:=E.br (fun k J e=>am (by rw[J,e])) av
 have J:q≠j:=br.symm
 have X:=E.cell (a:=⟨q,1,none⟩) J a'
 have Y:=E.cell (a:=⟨q,2,none⟩) J ab
 have N:=E.frozen (a:=⟨q,1,none⟩) K J bg
 have O:=E.frozen (a:=⟨q,2,none⟩) K J bi
 simp only[cW,bZ,fI,Rec.zero,List.cons_append,List.nil_append]at W X Y N O
 have a4:=Lib.hid W
 have a5:=Lib.hid X
 have a6:=Lib.hid Y
 have a1:=Lib.hid N
 have a2:=Lib.hid O
 have Z:=Lib.hid ad
 have j:=Lib.hid I
 clear t S E W av ad am I X Y N O
 go_enter Tryz.func167,Tryz.ntmps167
 go_wp2_with (first
  |(go_at_call 198;refine(a3.out _ (by(exact kp))).mono ?_;rintro e w1 ⟨rfl,rfl⟩)
  |(at_builtin;refine si rfl _ _ 88 rfl 0 50 bw (.int .u32 0) 1 4 Tryz.underlying88 hi bs bt bv rfl (by decide) (.slice z s A) s xs rfl (a4.out.alloc _) ⟨w.heap.size,0,none⟩ 1 1 [.int .u32 id] rfl rfl (ez _ _ _ _ (by simp)) (by simp[Value.oneCell']) (by unfold maxLen;omega) (by omega) (Nat.zero_le _) ?_;intro b8 b1 aw T bn;obtain⟨g,L,rfl⟩:=qB aw (by omega);obtain⟨b7,b2⟩:=oI T Z.out a5.out a1.out;obtain⟨q,j⟩:=oI T Z.out a6.out a2.out)
  |fail)
 go_ret
 refine⟨rfl,g,L,b1,_,T,?_,aw,rfl⟩
 rcases bn g rfl with U|U
 ·exact .inl U
 ·right;simp only[World.size_alloc,World.size_setCell]at U;omega

theorem sJ {F:Nat→Prop}{w:World}{j:Nat}{cs:List (Option Rec)}{gone:List Int}{t room:Int}(h:cO F w j cs gone t room)(id:Int)(r:Rec)(bp:look cs id=some r)(bw:1≤t) :
  Calls Tryz.prog 167 #[.pointer (some ⟨j,0,none⟩),.int .u32 id] w fun e w'=>e=.returned (.bool true)∧ae F w w'∧cO (au F w w') w' j (cs.set (id-2).toNat none) (gone++[id]) (t-1) room:=by
 have bv:=h.cell
 obtain⟨a6,a7,b6⟩:=bL bp
 obtain⟨⟨cb,bp,z,X,S,cd,aw⟩,Z,ab,b9,ca,a8,a',bb⟩:=h
 have be:w.cell? ⟨j,1,none⟩=some bp:=by rw[cell_of_row w j 1 _ _ _ z];rfl
 have bg:w.cell? ⟨j,2,none⟩=some (.int .i64 t):=by rw[cell_of_row w j 2 _ _ _ z];rfl
 have a2:∀o,w.frozen? ⟨j,o,none⟩=false:=fun o=>frozen_of_row w j o _ _ z
 have br:=aN z
 obtain⟨bp,O,ad,bt⟩:=bv
 obtain⟨s,rfl,a5,a1,b5,b1⟩:=bt (by omega)
 obtain⟨K,L,rfl,_⟩:=eO S
 obtain⟨bi,bn,rfl,bp⟩:=eO X
 have am:w.cell? ⟨j,0,none⟩=some (.slice bi cs.length bn):=by rw[cell_of_row w j 0 _ _ _ z];rfl
 rw[ad]at am
 cases am
 obtain⟨am,bx⟩:=bM X (k:=s) rfl
 have a3:Value.ownBlock (.slice K gone.length L)≠some j:=by
  intro e;obtain⟨U,A⟩:=bM S e;exact dq A z (by decide) rfl
 have a4:Value.ownBlock (.slice K gone.length L)≠some s:=by
  intro e;obtain⟨U,A⟩:=bM S e;exact dq A bx (by decide) rfl
 have b3:(id-2).toNat<cs.length:=by omega
 refine(sC j s id r cs.length O K gone.length L (gone.map (Value.int .u32)) t room w a6 (by omega) ad be bg bw (by omega) (a2 1) (a2 2) ab a7 (b5 _ _ b6) b1 a5 S (by omega) a3 a4).mono ?_
 rintro e w' ⟨rfl,g,W,w1,N,E,b2,Y,rfl⟩
 have b8:=iw s (bZ none) ((id-2).toNat*9) w
 have bq:=jc bZ kh rfl X (id-2).toNat b3 none
 have bs:aa (cW w s ((id-2).toNat*9) (bZ none)) ((cW w s ((id-2).toNat*9) (bZ none)).alloc N):=(aa.refl _).alloc N
 have S:ae (fun k=>k=s) w ((cW w s ((id-2).toNat*9) (bZ none)).alloc N):=b8.alloc N
 have b4:ae F w w1:=(S.mono (fun k _ e=>by rw[e];exact a1)).cy E (fun k q=>.inl (aw k q))
 have av:w1.heap[j]?=some (.cells #[.slice (some ⟨s,0,none⟩) cs.length O,.slice K gone.length L,.int .i64 t,.int .i64 room] 194 (0,0)):=
  (E.block j (by have:=S.size;omega) (fun e=>a3 e.symm)).trans ((S.block j br (fun e=>a5 e.symm)).trans z)
 have z:g≠j:=by
  obtain⟨U,A⟩:=bM Y (k:=g) rfl;exact dq A av (by decide)
 have b0:w1.ownsRow 0 271 9 (.slice (some ⟨s,0,none⟩) cs.length O) cs.length ((cs.set (id-2).toNat none).flatMap bZ):=
  ae.br (F:=fun k=>Value.ownBlock (.slice K gone.length L)=some k) ⟨E.os,E.tape,E.output,E.size,fun k q z=>E.block k q (fun e=>z e.symm)⟩ (fun k q e=>by simp[Value.ownBlock]at q;subst q;exact a4 e) (bs.br bq)
 have b7:ae (fun k=>k=j) w1 (w1.setCell ⟨j,1,none⟩ (.slice (some ⟨g,0,none⟩) (gone.length+1) W)):=ae.setCell (F:=fun k=>k=j) (p:=⟨j,1,none⟩) (ae.refl _ w1) (Or.inl rfl) _
 have T:ae (fun k=>k=j) w1 ((w1.setCell ⟨j,1,none⟩ (.slice (some ⟨g,0,none⟩) (gone.length+1) W)).setCell ⟨j,2,none⟩ (.int .i64 (t-1))):=ae.setCell (F:=fun k=>k=j) (p:=⟨j,2,none⟩) b7 (Or.inl rfl) _
 have t:g<w1.heap.size:=by
  obtain⟨U,A⟩:=bM Y (k:=g) rfl;exact aN A
 refine⟨rfl,b4.a' (T.mono (fun k _ e=>by rw[e];exact Z)),⟨⟨.slice (some ⟨s,0,none⟩) cs.length O,.slice (some ⟨g,0,none⟩) (gone.length+1) W,?_,?_,?_,?_,?_⟩,.inl Z,by rw[List.length_set];exact ab,?_,by omega,a8,?_,?_⟩⟩
 ·exact heap_setCell_same _ j 2 _ _ _ (heap_setCell_same _ j 1 _ _ _ av)
 ·rw[List.length_set];exact T.br (fun k q e=>by simp[Value.ownBlock]at q;omega) b0
 ·rw[List.length_append,List.map_append];exact T.br (fun k q e=>by simp[Value.ownBlock]at q;omega) Y
 ·intro k q;simp[Value.ownBlock]at q;subst q;exact .inl a1
 ·intro k q;simp[Value.ownBlock]at q;subst q;rcases b2 with I|I;·exact .inl (aw g I)
  ·exact .inr ⟨I,by have:=T.size;omega⟩
 ·rw[List.length_set,List.length_append];simp;omega
 ·intro x J;rw[List.length_set];rw[List.mem_append,List.mem_singleton]at J;rcases J with J|rfl;·exact a' x J
  ·exact⟨a6,a7⟩
 ·intro x J;rcases List.mem_or_eq_of_mem_set J with I|I;·exact bb x I
  ·cases I

structure dU (F:Nat→Prop)(W0 W:World)(sb ab ib:Nat)(M:St)(l:List Int)(ka ki:Nat):Prop where
 head:W.heap[sb]?=some (.cells #[.int .i64 M.n,.pointer (some ⟨ab,0,none⟩),.pointer (some ⟨ib,0,none⟩)] 132 (0,0))
 a4:∃ts Fa Fi,cO Fa W ab (cZ M.cs (l.take ka)) (M.gone++l.take ka) (M.len-ka) M.room∧cQ Fi W ib ts (M.len-ki)∧M.len-ki=(occ ts:Int) ∧
  (∀r id,ah.has ts r id↔look (cZ M.cs (l.take ki)) id=some r)∧(∀k,Fa k→F k∨(W0.heap.size≤k∧k<W.heap.size))∧(∀k,Fi k→F k)∧(∀k,Fa k→¬Fi k)∧¬Fa sb∧¬Fi sb
 av:ae F W0 W
 own:F sb
 lt:∀k,F k→k<W0.heap.size

theorem ag.hB {F:Nat→Prop}{w:World}{q:Nat}{M:St}(h:ag F w q M)(l:List Int):∃j ib,dU F w w q j ib M l 0 0:=by
 obtain⟨⟨j,ib,ts,q,s,A,I,J,K,L,N,O,S,T,E⟩,t,z,U⟩:=h;refine⟨j,ib,A,⟨ts,q,s,?_,?_,?_,?_,fun k U=>.inl (N k U),O,S,T,E⟩,ae.refl _ w,t,z⟩;·simpa[cZ]using I
 ·simpa using J
 ·simpa using K
 ·simpa[cZ]using L

theorem dU.U {F:Nat→Prop}{W0 s W':World}{q t ib:Nat}{M:St}{l:List Int}{z A:Nat}(h:dU F W0 s q t ib M l z A)(j:aa s W'):dU F W0 W' q t ib M l z A:=by
 obtain⟨s,⟨ts,t,z,A,L,N,O,S,T,U,W,X⟩,E,I,J⟩:=h
 exact⟨(j.block q (aN s)).trans s,⟨ts,t,z,A.U j,L.U j,N,O,fun k K=>by
  rcases S k K with q|q;·exact .inl q
  ·exact .inr ⟨q.1,Nat.lt_of_lt_of_le q.2 j.size⟩,T,U,W,X⟩,E.a' (j.av _),I,J⟩

theorem dU.get {F:Nat→Prop}{W0 j:World}{t q ib:Nat}{M:St}{l:List Int}{k:Nat}{id:Int}{r:Rec}(h:dU F W0 j t q ib M l k k)(hid:id≤4294967295)(s:look (cZ M.cs (l.take k)) id=some r) :
  Calls Tryz.prog 133 #[.pointer (some ⟨q,0,none⟩),.int .u32 id] j fun e w'=>e=.returned (.tuple #[.agg #[.int .u8 r.ad,.int .u8 r.I,.int .u8 r.J,.int .u8 r.lo.tag,.int .u32 r.lo.to,.int .u8 r.hi.tag,.int .u32 r.hi.to],.bool true])∧aa j w':=by
 obtain⟨z,⟨ts,q,t,j,_⟩,_⟩:=h
 exact oK j id hid r s

theorem dU.ho {F:Nat→Prop}{W0 I:World}{E J ib:Nat}{M:St}{l:List Int}{k:Nat}{id:Int}{r:Rec}(h:dU F W0 I E J ib M l k k)(hid:l[k]?=some id)(Y:2≤id)(am:r.ok)(z:look (cZ M.cs (l.take k)) id=some r)
  (ad:∀A i q,look (cZ M.cs (l.take k)) i=some A→look (cZ M.cs (l.take k)) q=some A→i=q) :
  Calls Tryz.prog 166 #[.pointer (some ⟨ib,0,none⟩),.agg #[.int .u8 r.ad,.int .u8 r.I,.int .u8 r.J,.int .u8 r.lo.tag,.int .u32 r.lo.to,.int .u8 r.hi.tag,.int .u32 r.hi.to]] I fun e w'=>e=.returned (.bool true)∧dU F W0 w' E J ib M l k (k+1):=by
 obtain⟨K,⟨ts,T,U,a5,I,J,L,a6,N,O,a7,S⟩,aw,ab,Z⟩:=h
 refine(wv I J r am id ((L r id).2 z)).mono ?_
 rintro e w' ⟨rfl,s,a8,a2,a3,a4⟩
 have av:l.take (k+1)=l.take k++[id]:=by rw[List.take_add_one,hid];rfl
 refine⟨rfl,(s.block E (aN K) S).trans K,⟨a8,T,U,a5.a5 s O,?_,?_,?_,fun q t=>?_,N,O,a7,S⟩,aw.a' (s.mono (fun q _ t=>N q t)),ab,Z⟩
 ·rw[show M.len-((k+1:Nat):Int)=M.len-(k:Int)-1 by omega];exact a2
 ·rw[show M.len-((k+1:Nat):Int)=M.len-(k:Int)-1 by omega];exact a3
 ·intro A a1;rw[a4,L,av,o8,pY Y];constructor
  ·rintro⟨j,W⟩;rw[if_neg (fun e=>by subst e;rw[z]at j;cases j;exact W rfl)];exact j
  ·intro j;by_cases e:a1=id;·rw[if_pos e]at j;cases j
   ·rw[if_neg e]at j;exact⟨j,fun X=>by subst X;exact e (ad _ _ _ j z)⟩
 ·rcases a6 q t with j|j;·exact .inl j
  ·exact .inr ⟨j.1,Nat.lt_of_lt_of_le j.2 s.size⟩

theorem dU.hg {F:Nat→Prop}{W0 E:World}{K I ib:Nat}{M:St}{l:List Int}{k:Nat}{id:Int}{r:Rec}(h:dU F W0 E K I ib M l k (k+1))(hid:l[k]?=some id)(am:look (cZ M.cs (l.take k)) id=some r)(av:1≤M.len-k) :
  Calls Tryz.prog 167 #[.pointer (some ⟨I,0,none⟩),.int .u32 id] E fun e w'=>e=.returned (.bool true)∧dU F W0 w' K I ib M l (k+1) (k+1):=by
 obtain⟨N,⟨ts,Z,ab,I,a5,a6,a7,U,W,X,Y,a8⟩,z,aw,O⟩:=h
 refine(sJ I id r am av).mono ?_
 rintro e w' ⟨rfl,t,a4⟩
 have a2:l.take (k+1)=l.take k++[id]:=by rw[List.take_add_one,hid];rfl
 have a3:=z.size
 have T:=t.size
 have a1:=aN N
 refine⟨rfl,(t.block K a1 Y).trans N,⟨ts,au Z E w',ab,?_,a5.a5 t (fun q j A=>X q A j),a6,a7,fun q j=>?_,W,fun q j A=>?_,fun j=>?_,a8⟩,?_,aw,O⟩
 ·rw[a2,o8,←List.append_assoc,show M.len-((k+1:Nat):Int)=M.len-(k:Int)-1 by omega];exact a4
 ·rcases j with j|⟨L,J⟩
  ·rcases U q j with s|s;·exact .inl s
   ·exact .inr ⟨s.1,Nat.lt_of_lt_of_le s.2 T⟩
  ·exact .inr ⟨by omega,J⟩
 ·rcases j with j|⟨L,J⟩;·exact X q j A
  ·have:=O q (W q A);omega
 ·rcases j with j|⟨L,J⟩;·exact Y j
  ·omega
 ·refine⟨by rw[t.os,z.os],by rw[t.tape,z.tape],by rw[t.output,z.output],Nat.le_trans a3 T,fun q j S=>?_⟩;rw[t.block q (by omega) (fun ad=>?_),z.block q j S];rcases U q ad with s|s;·exact S s
  ·omega

theorem dU.done {F:Nat→Prop}{w W0 L W':World}{E N ib d:Nat}{M:St}{roots:List Int}(Z:M.wf)(z:aa w W0)(hF:∀k,F k→k<w.heap.size)(h:dU F W0 L E N ib M (di M roots) (di M roots).length (di M roots).length)
  (a1:w.heap.size≤d) (a2:d<W0.heap.size) (s:ae (fun k=>k=d) L W') :
  ae F w W'∧ag (au F w W') W' E (cM M roots):=by
 obtain⟨O,⟨ts,J,K,I,T,U,W,X,Y,am,av,aw⟩,A,S,L⟩:=h
 rw[List.take_length]at I W
 have L:=nY M roots
 rw[←L]at I T U
 have L:=z.size
 have L:=A.size
 have L:=s.size
 have ad:∀j,K j→¬(j=d):=fun j q e=>by have:=hF j (Y j q);omega
 have ab:∀j,J j→¬(j=d):=fun j q e=>by
  rcases X j q with t|t;·have:=hF j t;omega
  ·omega
 refine⟨?_,⟨N,ib,ts,J,K,(s.block E (aN O) (fun e=>by have:=hF E S;omega)).trans O,I.a5 s ab,T.a5 s ad,U,W,fun j q=>?_,fun j q=>.inl (Y j q),am,av,aw⟩,.inl S,fun j q=>?_,Z.e3 roots (by omega)⟩
 ·refine⟨by rw[s.os,A.os,z.os],by rw[s.tape,A.tape,z.tape],by rw[s.output,A.output,z.output],by omega,fun j q E=>?_⟩;rw[s.block j (by omega) (by omega),A.block j (by omega) E,z.block j q]
 ·rcases X j q with t|t;·exact .inl t
  ·exact .inr ⟨by omega,by omega⟩
 ·rcases q with q|q;·have:=hF j q;omega
  ·exact q.2

theorem vJ {M:St}{roots j:List Int}(h:eX M.cs roots j):(bS M.cs).filter (fun x=>!decide (x∈j))=di M roots:=by
 unfold di;refine List.filter_congr (fun x _=>?_);have:x∈j↔x∈aQ M.cs roots:=by rw[h.e8,eL]
 simp[this]

end Go.Proofs.YtafkamlhimkbmaaGreat
