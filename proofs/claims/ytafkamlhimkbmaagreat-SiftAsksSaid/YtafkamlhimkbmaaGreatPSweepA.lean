/-
  Sweep, plainly: what goes, and the state behind it.
-/
import Derived.Test.YtafkamlhimkbmaaGreatPRightA
namespace Go.Proofs.YtafkamlhimkbmaaGreat
set_option maxRecDepth 1000000
set_option maxHeartbeats 8000000
set_option linter.unusedSimpArgs false
set_option linter.unusedVariables false
noncomputable def eo (M:St)(roots:List Int):List Int:=(cI M.cs).filter (fun x=>!decide (x∈aU M.cs roots))
def dV (cs:List (Option Rec))(l:List Int):List (Option Rec):=l.foldl (fun c id=>c.set (id-2).toNat none) cs
noncomputable def dG (M:St)(roots:List Int):St:={ M with cs:=dV M.cs (eo M roots),gone:=M.gone++eo M roots }
theorem qI (cs:List (Option Rec))(l:List Int):(dV cs l).length=cs.length:=by
 unfold dV;induction l generalizing cs with
 |nil=>rfl
 |cons x l j=>rw[List.foldl_cons,j,bZ]
theorem qJ (cs:List (Option Rec))(l:List Int)(id:Int):dV cs (l++[id])=(dV cs l).set (id-2).toNat none:=by
 unfold dV;rw[List.foldl_append];rfl
theorem rR {cs:List (Option Rec)}{id:Int}(h:2≤id)(x:Int):look (cs.set (id-2).toNat none) x=if x=id then none else look cs x:=by
 unfold look;by_cases j:x<2;·rw[ah j,ag (by omega),ah j]
 ·rw[ag j];by_cases q:x=id
  ·subst q;rw[ah rfl,List.getElem?_set];simp;split<;>rfl
  ·rw[ag q,ag j,List.getElem?_set,ag (by omega)]
theorem oO {cs:List (Option Rec)}{l:List Int}(h:∀x∈l,2≤x)(x:Int):look (dV cs l) x=if x∈l then none else look cs x:=by
 induction l generalizing cs with
 |nil=>simp[dV]
 |cons y l s=>
  show look (dV (cs.set (y-2).toNat none) l) x=_;rw[s (fun t s=>h t (eE _ s)),rR (h y List.mem_cons_self)];by_cases j:x∈l;·simp[j]
  ·by_cases q:x=y;·simp[q]
   ·simp[j,q]
theorem ld {M:St}{roots:List Int}{x:Int}:x∈eo M roots↔look M.cs x≠none∧¬Reaches M.cs roots x:=by
 unfold eo;rw[List.mem_filter,mh];simp[gR]
theorem xX (M:St)(roots:List Int):(eo M roots).Pairwise (·<·):=List.Pairwise.filter _ (oF _ _)
theorem qW (M:St)(roots:List Int):(eo M roots).Nodup:=mQ (xX M roots)
theorem oz {M:St}{roots:List Int}{x:Int}(h:x∈eo M roots):2≤x∧x-2<(M.cs.length:Int):=by
 obtain⟨q,_⟩:=ld.1 h;cases j:look M.cs x with
 |none=>exact absurd j q
 |some r=>have:=ck j;omega
theorem rS {M:St}{roots:List Int}(x:Int):look (dG M roots).cs x=if x∈eo M roots then none else look M.cs x:=
 oO (fun j j=>(oz j).1) x
theorem ll {M:St}{roots:List Int}{x:Int}{r:Rec}:look (dG M roots).cs x=some r↔look M.cs x=some r∧Reaches M.cs roots x:=by
 rw[rS];by_cases h:x∈eo M roots
 ·rw[ah h];exact⟨fun j=>(by cases j),fun j=>absurd j.2 (ld.1 h).2⟩
 ·rw[ag h];exact⟨fun j=>⟨j,Classical.byContradiction fun q=>h (ld.2 ⟨by rw[j];simp,q⟩)⟩,fun j=>j.1⟩
theorem pK (M:St)(roots:List Int):(dG M roots).len=M.len-((eo M roots).length:Int):=by
 unfold St.len dG;simp only[qI,di];omega
theorem oM {M:St}{roots:List Int}{f:Int}{e:Edge}{l:Int}(h:M.leads f e l=true)(s:look M.cs e.to≠none→Reaches M.cs roots e.to):(dG M roots).leads f e l=true:=by
 unfold St.leads at h ⊢;simp only[bT,dS]at h ⊢;refine⟨h.1,?_⟩;rcases h.2 with j|j;·exact .inl j
 ·right;cases q:look M.cs e.to with
  |none=>rw[q]at j;simp at j
  |some r=>
   rw[ll.2 ⟨q,s (by rw[q];simp)⟩];rw[q]at j;exact j
theorem St.wf.e8 {M:St}(h:M.wf)(roots:List Int)(L:0≤(dG M roots).len):(dG M roots).wf:=by
 have S:=pK M roots;refine⟨h.n0,h.bw,?_,?_,?_,?_,L,h.hL,h.e6,?_⟩
 ·intro id hid;have N:id∈M.gone∨id∈eo M roots:=List.mem_append.1 hid;have L:(dG M roots).cs.length=M.cs.length:=qI _ _;rw[L,rS];rcases N with j|j
  ·obtain⟨z,A,B⟩:=h.gone id j;exact⟨z,A,by split;rfl;exact B⟩
  ·have:=oz j;exact⟨this.1,this.2,by rw[ah j]⟩
 ·refine List.nodup_append.2 ⟨h.g1,qW M roots,?_⟩;intro a E b J I;subst I;exact(ld.1 J).1 (h.gone a E).2.2
 ·intro id r O;obtain⟨j,s⟩:=ll.1 O;have q:=h.c5 id r j;have t:=Reaches.closed M.cs roots id r s j;unfold St.br at q ⊢;simp only[Bool.or_eq_false_iff,Bool.not_eq_false']at q ⊢;exact⟨⟨q.1.1,oM q.1.2 t.1⟩,oM q.2 t.2⟩
 ·intro r id q j s;exact h.b3 r id q (ll.1 j).1 (ll.1 s).1
 ·have:=h.cS;show(dG M roots).len≤M.room;omega
theorem fm {a x y n:Nat}(j:x<n)(q:y<n)(h:(a+x)%n=(a+y)%n):x=y:=by
 have key:∀x y,x<n→y<n→x≤y→(a+x)%n=(a+y)%n→x=y:=by
  intro x y j q hle h;have s:(a+y)%n=((a+x)%n+(y-x))%n:=by rw[Nat.mod_add_mod,show a+x+(y-x)=a+y by omega]
  have t:=bU (a+x) (show n > 0 by omega);by_cases t:(a+x)%n+(y-x)<n
  ·rw[dT t]at s;omega
  ·have s:((a+x)%n+(y-x))%n=(a+x)%n+(y-x)-n:=by
    rw[show(a+x)%n+(y-x)=(a+x)%n+(y-x)-n+n by omega,Nat.add_mod_right,dT (by omega)];omega
   omega
 rcases Nat.le_total x y with hle|hle;·exact key x y j q hle h
 ·exact(key y x q j hle h.symm).symm
theorem mG {H h n d D u v:Nat}(z:d≤D)(t:D<n)(A:u<n)(j:v<n)(q:(H+d)%n=(h+u)%n)(s:(H+D)%n=(h+v)%n):u+(D-d)=v∨u+(D-d)=v+n:=by
 have e:(h+(u+(D-d)))%n=(h+v)%n:=by
  rw[←s,show h+(u+(D-d))=(h+u)+(D-d) by omega,←Nat.mod_add_mod,←q,Nat.mod_add_mod,show H+d+(D-d)=H+D by omega]
 by_cases q:u+(D-d)<n;·exact .inl (fm q j e)
 ·right
  have q:(h+(u+(D-d)-n))%n=(h+v)%n:=by
   rw[←e,show h+(u+(D-d))=h+(u+(D-d)-n)+n by omega,Nat.add_mod_right]
  have:=fm (by omega) j q;omega
theorem Ay {H h n d u e:Nat}(j:(H+d)%n=(h+u)%n):(H+(d+e))%n=(h+(u+e))%n:=by
 rw[show H+(d+e)=(H+d)+e by omega,←Nat.mod_add_mod,j,Nat.mod_add_mod,show h+u+e=h+(u+e) by omega]
theorem nQ {ts:ao}{i:Nat}{r s:Rec}{id q:Int}(h:ao.at ts i r id)(j:ao.at ts i s q):r=s∧id=q:=by
 unfold ao.at at h j;rw[h]at j;cases j;exact⟨rfl,rfl⟩
structure fe (H:Rec→Nat→Nat)(ts:ao)(h:Nat)(k:Rec)(D s t:Nat)(T:ao):Prop where
 len:T.length=ts.length
 st:s<t
 tD:t≤D
 Dn:D<ts.length
 gu:T[(h+s)%ts.length]?=some none
 tail:∀u,s<u→u<ts.length→T[(h+u)%ts.length]?=ts[(h+u)%ts.length]?
 stop:ts[(h+D)%ts.length]?=some none
 go:∀u,0<u→u<D→∃r id,ao.at ts ((h+u)%ts.length) r id
 c8:∀i j r id id',ao.at T i r id→ao.at T j r id'→i=j
 mem:∀r id,ao.has T r id↔ao.has ts r id∧r≠k
 e5:∀v r id,v<ts.length→ao.at T ((h+v)%ts.length) r id→∃d,d<ts.length∧(H r ts.length+d)%ts.length=(h+v)%ts.length ∧
  ∀e,e<d→(∃r' id',ao.at T ((H r ts.length+e)%ts.length) r' id')∨((H r ts.length+e)%ts.length=(h+s)%ts.length∧t≤v)
 occ:occ T+1=occ ts
theorem rp {h n i:Nat}(hi:i<n):∃v,v<n∧(h+v)%n=i:=oX hi
theorem mD {ts:ao}{i:Nat}{r:Rec}{id:Int}(h:ao.at ts i r id):occ (ts.set i none)+1=occ ts:=by
 unfold occ ao.at at *;obtain⟨hi,j⟩:=List.getElem?_eq_some_iff.1 h;rw[List.countP_set hi,j];have:0<List.countP (fun x=>x.isSome) ts:=List.countP_pos_iff.2 ⟨_,List.getElem_mem hi,by rw[j];rfl⟩;simp;omega
theorem zZ {ts:ao}{i:Nat}{r:Rec}{id:Int}(h:ts[i]?=some none):occ (ts.set i (some (r,id)))=occ ts+1:=by
 unfold occ;obtain⟨hi,j⟩:=List.getElem?_eq_some_iff.1 h;rw[List.countP_set hi,j];simp
theorem fe.start {H:Rec→Nat→Nat}{ts:ao}(z:eN H ts){h:Nat}{k:Rec}{I:Int}{D:Nat}(s:h<ts.length)(t:ao.at ts h k I)(J:1≤D)(L:D<ts.length)(U:ts[(h+D)%ts.length]?=some none)(O:∀u,0<u→u<D→∃r id,ao.at ts ((h+u)%ts.length) r id) :
  fe H ts h k D 0 1 (ts.set h none):=by
 have q:(h+0)%ts.length=h:=dT (by omega)
 have j:∀i r id,ao.at (ts.set h none) i r id↔i≠h∧ao.at ts i r id:=by
  intro i r id;unfold ao.at;rw[gl s];by_cases e:i=h;·simp[e]
  ·simp[e]
 refine⟨bZ,by omega,J,L,?_,fun u Z W=>?_,U,O,?_,?_,?_,mD t⟩
 ·rw[q,gl s,ah rfl]
 ·rw[gl s,ag];intro e;have:=fm (a:=h) W (show 0<ts.length by omega) (by rw[e,q]);omega
 ·intro i s r id B a b;exact z.c8 i s r id B ((j _ _ _).1 a).2 ((j _ _ _).1 b).2
 ·intro r id;constructor
  ·rintro⟨i,hi⟩;obtain⟨a,b⟩:=(j _ _ _).1 hi;refine⟨⟨i,b⟩,fun e=>a ?_⟩;subst e;exact z.c8 i h r id I b t
  ·rintro⟨⟨i,hi⟩,s⟩;refine⟨i,(j _ _ _).2 ⟨fun e=>s ?_,hi⟩⟩;subst e;exact(nQ hi t).1
 ·intro v r id s N;obtain⟨a,b⟩:=(j _ _ _).1 N;obtain⟨d,s,t,T⟩:=z.e5 _ r id b;refine⟨d,s,t.symm,fun e S=>?_⟩;obtain⟨Y,B,X⟩:=T e S;by_cases E:(H r ts.length+e)%ts.length=h
  ·right;refine⟨by rw[E,q],?_⟩;rcases Nat.eq_zero_or_pos v with A|A;·subst A;exact absurd q a
   ·exact A
  ·left;exact⟨Y,B,(j _ _ _).2 ⟨E,X⟩⟩
theorem fe.hn {H:Rec→Nat→Nat}{ts:ao}{h:Nat}{k:Rec}{D z T:Nat}{q:ao}(hS:fe H ts h k D z T q){v u e d:Nat}{r:Rec}{id:Int}(L:v<ts.length)(s:ao.at q ((h+v)%ts.length) r id)
  (E:d<ts.length) (I:(H r ts.length+d)%ts.length=(h+v)%ts.length) (W:∀e,e<d→(∃S O,ao.at q ((H r ts.length+e)%ts.length) S O)∨((H r ts.length+e)%ts.length=(h+z)%ts.length∧T≤v))
  (J:e<d) (X:u<D) (t:(H r ts.length+e)%ts.length=(h+u)%ts.length):u+(d-e)=v∧v<D:=by
 have A:=hS.Dn
 have T:=hS.st
 have T:=hS.tD
 have B:q[(h+D)%ts.length]?=some none:=(hS.tail D (by omega) A).trans hS.stop
 have key:¬D≤u+(d-e):=by
  intro q;by_cases U:u+(d-e)=D
  ·rcases mG (nK J) E (by omega) L t I with hp|hp
   ·unfold ao.at at s;rw[←hp,U,B]at s;cases s
   ·omega
  ·have N:(H r ts.length+(e+(D-u)))%ts.length=(h+D)%ts.length:=by
    rw[Ay t,show u+(D-u)=D by omega]
   rcases W (e+(D-u)) (by omega)with⟨S,O,j⟩|⟨j,_⟩
   ·unfold ao.at at j;rw[N,B]at j;cases j
   ·rw[N]at j;have:=fm (a:=h) A (show z<ts.length by omega) j;omega
 rcases mG (nK J) E (by omega) L t I with hp|hp
 ·exact⟨hp,by omega⟩
 ·omega
theorem fe.done {H:Rec→Nat→Nat}{ts:ao}{h:Nat}{k:Rec}{D B:Nat}{j:ao}(hS:fe H ts h k D B D j):eN H j:=by
 refine⟨hS.c8,?_⟩;intro i r id hi;have E:i<ts.length:=by rw[←hS.len];exact(List.getElem?_eq_some_iff.1 hi).1
 obtain⟨v,A,rfl⟩:=rp (h:=h) E;obtain⟨d,q,s,z⟩:=hS.e5 v r id A hi;rw[hS.len];refine⟨d,q,s.symm,fun e t=>?_⟩;rcases z e t with j|⟨j,E⟩;·exact j
 ·have:=hS.hn A hi q s z t (u:=B) (by have:=hS.st;omega) j;omega
theorem fe.bf {H:Rec→Nat→Nat}{ts:ao}{h:Nat}{k:Rec}{D s j:Nat}{I:ao}(hS:fe H ts h k D s j I)(ad:j<D){r:Rec}{id:Int}(O:ao.at ts ((h+j)%ts.length) r id){d:Nat}(S:d<ts.length)(T:(H r ts.length+d)%ts.length=(h+j)%ts.length)(ab:d<j-s) :
  fe H ts h k D s (j+1) I:=by
 have I:=hS.Dn
 have Y:=hS.st
 refine⟨hS.len,by omega,by omega,hS.Dn,hS.gu,hS.tail,hS.stop,hS.go,hS.c8,hS.mem,?_,hS.occ⟩
 intro v E L B A
 obtain⟨d',t,z,W⟩:=hS.e5 v E L B A
 refine⟨d',t,z,fun e J=>?_⟩
 rcases W e J with q|⟨q,I⟩
 ·exact .inl q
 ·right;refine⟨q,?_⟩;rcases Nat.lt_or_ge j v with I|I;·exact I
  ·exfalso;have Z:v=j:=(by omega);subst Z
   have X:ao.at ts ((h+v)%ts.length) E L:=by
    unfold ao.at at A ⊢;rw[←hS.tail v Y B];exact A
   obtain⟨N,j⟩:=nQ X O;subst N;have U:d'=d:=fm (a:=H E ts.length) t S (by rw[z,T]);subst U;rcases mG (nK J) t (show s<ts.length by omega) B q z with hp|hp;·omega
   ·omega
theorem fe.move {H:Rec→Nat→Nat}{ts:ao}{h:Nat}{k:Rec}{D s j:Nat}{E:ao}(hS:fe H ts h k D s j E)(bq:j<D){r:Rec}{id:Int}(a5:ao.at ts ((h+j)%ts.length) r id){d:Nat}(bf:d<ts.length)(bg:(H r ts.length+d)%ts.length=(h+j)%ts.length)(bs:j-s≤d) :
  fe H ts h k D j (j+1) ((E.set ((h+s)%ts.length) (some (r,id))).set ((h+j)%ts.length) none):=by
 have be:=hS.Dn
 have bp:=hS.st
 have ab:=hS.len
 have ad:0<ts.length:=by omega
 have al:(h+s)%ts.length<E.length:=by rw[ab];exact bU _ ad
 have am:(h+j)%ts.length<E.length:=by rw[ab];exact bU _ ad
 have a7:(h+s)%ts.length≠(h+j)%ts.length:=fun e=>by
  have:=fm (a:=h) (show s<ts.length by omega) (show j<ts.length by omega) e;omega
 have L:ao.at E ((h+j)%ts.length) r id:=by
  unfold ao.at at a5 ⊢;rw[hS.tail j bp (by omega)];exact a5
 have I:∀i q t,ao.at ((E.set ((h+s)%ts.length) (some (r,id))).set ((h+j)%ts.length) none) i q t↔(i=(h+s)%ts.length∧q=r∧t=id)∨(i≠(h+s)%ts.length∧i≠(h+j)%ts.length∧ao.at E i q t):=by
  intro i q t;unfold ao.at;rw[gl (by rw[bZ];exact am),gl al];by_cases B:i=(h+j)%ts.length
  ·rw[ah B];constructor;·intro A;cases A
   ·rintro(⟨z,_⟩|⟨_,T,_⟩);·exact absurd (z.symm.trans B) a7
    ·exact absurd B T
  ·rw[ag B];by_cases z:i=(h+s)%ts.length
   ·rw[ah z];constructor;·intro A;cases A;exact .inl ⟨z,rfl,rfl⟩
    ·rintro(⟨_,rfl,rfl⟩|⟨T,_⟩);·rfl
     ·exact absurd z T
   ·rw[ag z];constructor;·intro A;exact .inr ⟨z,B,A⟩
    ·rintro(⟨T,_⟩|⟨_,_,A⟩);·exact absurd T z
     ·exact A
 have a4:∀q t,¬ao.at E ((h+s)%ts.length) q t:=fun q t A=>by
  unfold ao.at at A;rw[hS.gu]at A;cases A
 have T:∀i q t,ao.at ((E.set ((h+s)%ts.length) (some (r,id))).set ((h+j)%ts.length) none) i q t→∃X,ao.at E X q t∧(q=r→X=(h+j)%ts.length)∧(q≠r→X=i):=by
  intro i q t A;rcases(I _ _ _).1 A with⟨_,rfl,rfl⟩|⟨a,b,c⟩
  ·exact⟨_,L,fun _=>rfl,fun e=>absurd rfl e⟩
  ·refine⟨i,c,fun e=>?_,fun _=>rfl⟩;subst e;exact hS.c8 _ _ _ _ _ c L
 refine⟨by rw[bZ,bZ];exact ab,by omega,by omega,be,?_,fun u A U=>?_,hS.stop,hS.go,?_,?_,?_,?_⟩
 ·rw[gl (by rw[bZ];exact am),ah rfl]
 ·have A:(h+u)%ts.length≠(h+j)%ts.length:=fun e=>by
   have:=fm (a:=h) U (show j<ts.length by omega) e;omega
  have T:(h+u)%ts.length≠(h+s)%ts.length:=fun e=>by
   have:=fm (a:=h) U (show s<ts.length by omega) e;omega
  rw[gl (by rw[bZ];exact am),ag A,gl al,ag T];exact hS.tail u (by omega) U
 ·intro i X q t A a b;rcases(I _ _ _).1 a with⟨rfl,rfl,rfl⟩|⟨a',a2,S⟩<;>rcases(I _ _ _).1 b with⟨rfl,B,z⟩|⟨A,bb,a1⟩
  ·rfl
  ·exact absurd (hS.c8 _ _ _ _ _ a1 L) bb
  ·subst B;exact absurd (hS.c8 _ _ _ _ _ S L) a2
  ·exact hS.c8 _ _ _ _ _ S a1
 ·intro q t;rw[←hS.mem q t];constructor
  ·rintro⟨i,hi⟩;rcases(I _ _ _).1 hi with⟨_,rfl,rfl⟩|⟨_,_,c⟩
   ·exact⟨_,L⟩
   ·exact⟨i,c⟩
  ·rintro⟨i,hi⟩;by_cases B:i=(h+j)%ts.length
   ·subst B;obtain⟨rfl,rfl⟩:=nQ hi L;exact⟨_,(I _ _ _).2 (.inl ⟨rfl,rfl,rfl⟩)⟩
   ·refine⟨i,(I _ _ _).2 (.inr ⟨fun e=>?_,B,hi⟩)⟩;subst e;exact a4 _ _ hi
 ·intro v q t av bn;rcases(I _ _ _).1 bn with⟨B,rfl,rfl⟩|⟨a',a2,S⟩
  ·have br:v=s:=fm (a:=h) av (show s<ts.length by omega) B;subst br;obtain⟨d',N,O,W⟩:=hS.e5 j q t (by omega) L;have bi:d'=d:=fm (a:=H q ts.length) N bf (by rw[O,bg]);subst bi
   have a6:(H q ts.length+(d'-(j-v)))%ts.length=(h+v)%ts.length:=by
    obtain⟨u,U,a8⟩:=rp (h:=h) (i:=(H q ts.length+(d'-(j-v)))%ts.length) (n:=ts.length) (bU _ ad);rcases mG (H:=H q ts.length) (h:=h) (d:=d'-(j-v)) (D:=d') (by omega) N U (show j<ts.length by omega) a8.symm O with hp|hp;·rw[←a8,show u=v by omega]
    ·omega
   refine⟨d'-(j-v),by omega,a6,fun e Z=>?_⟩;left;rcases W e (by omega)with⟨a0,aw,J⟩|⟨J,_⟩
   ·refine⟨a0,aw,(I _ _ _).2 (.inr ⟨fun z=>?_,fun z=>?_,J⟩)⟩;·rw[z]at J;exact a4 _ _ J
    ·have:=fm (a:=H q ts.length) (show e<ts.length by omega) N (by rw[z,O]);omega
   ·have:=fm (a:=H q ts.length) (show e<ts.length by omega) (show d'-(j-v)<ts.length by omega) (by rw[J,a6]);omega
  ·obtain⟨d',N,O,W⟩:=hS.e5 v q t av S;refine⟨d',N,O,fun e Z=>?_⟩;by_cases Y:(H q ts.length+e)%ts.length=(h+j)%ts.length
   ·right;have:=hS.hn av S N O W Z (u:=j) bq Y;exact⟨Y,by omega⟩
   ·left;rcases W e Z with⟨a0,aw,J⟩|⟨J,_⟩
    ·by_cases a3:(H q ts.length+e)%ts.length=(h+s)%ts.length;·exact⟨r,id,(I _ _ _).2 (.inl ⟨a3,rfl,rfl⟩)⟩
     ·exact⟨a0,aw,(I _ _ _).2 (.inr ⟨a3,Y,J⟩)⟩
    ·exact⟨r,id,(I _ _ _).2 (.inl ⟨J,rfl,rfl⟩)⟩
 ·have q:=zZ (r:=r) (id:=id) hS.gu
  have bd:ao.at (E.set ((h+s)%ts.length) (some (r,id))) ((h+j)%ts.length) r id:=by
   unfold ao.at;rw[gl al,ag (fun e=>a7 e.symm)];exact L
  have j:=mD bd;have j:=hS.occ;omega
open Go.RowKit
theorem zD (x:Int)(p:Nat)(j:p≤22):bits BinOp.and IntKind.i64 x (2 ^ p-1)=x%2 ^ p:=by
 have q:IntKind.i64.bits=64:=rfl;have z:(2:Nat) ^ p≤2 ^ 22:=aW (by decide) j;have t:0<(2:Nat) ^ p:=Nat.two_pow_pos p;have j:(2:Nat) ^ 22=4194304:=rfl;have j:(2:Nat) ^ 64=18446744073709551616:=rfl;have s:((2:Int) ^ p-1)=((2 ^ p-1:Nat):Int):=by rw[Int.natCast_sub t];simp
 have t:(2:Nat) ^ p ∣ 2 ^ 64:=Nat.pow_dvd_pow 2 (by omega);have j:0≤x%(2 ^ 64:Nat):=Int.emod_nonneg _ (by decide)
 have key:((x%(2 ^ 64:Nat)).toNat%2 ^ p:Nat)=(x%2 ^ p).toNat:=by
  have z:(((x%(2 ^ 64:Nat)).toNat%2 ^ p:Nat):Int)=x%2 ^ p:=by
   rw[Int.natCast_emod,Int.toNat_of_nonneg j];have j:((2 ^ p:Nat):Int) ∣ ((2 ^ 64:Nat):Int):=Int.natCast_dvd_natCast.2 t;rw[uO x j];simp
  omega
 have j:0≤x%2 ^ p:=Int.emod_nonneg _ (by have:(2:Int) ^ p=((2 ^ p:Nat):Int):=(by simp);omega)
 have j:x%2 ^ p<4194304:=by
  have j:(2:Int) ^ p=((2 ^ p:Nat):Int):=by simp
  have:=Int.emod_lt_of_pos x (show(0:Int)<2 ^ p by omega);omega
 rw[s];simp only[bits,BitVec.toNat_and,BitVec.toNat_ofInt,q,BitVec.ofInt_natCast,BitVec.toNat_ofNat];rw[dT (show 2 ^ p-1<2 ^ 64 by omega),Nat.and_two_pow_sub_one_eq_mod,key,IntKind.wrap_i64];omega
theorem qF (i h p len:Nat)(j:len=2 ^ p)(s:len≤4194304)(t:h<len):bits BinOp.and IntKind.i64 ((i:Int)-(h:Int)) ((len:Int)-1)=(((i+len-h)%len:Nat):Int):=by
 have q:p≤22:=by
  rcases Nat.lt_or_ge 22 p with h|h
  ·have:=Nat.pow_lt_pow_right (a:=2) (by decide) h;omega
  ·exact h
 have e:(len:Int)=2 ^ p:=by rw[j];simp
 have j:((i+len-h:Nat):Int)=((i:Int)-h)+len:=by omega
 rw[Int.natCast_emod,j,Int.add_emod_right,e];exact zD _ p q
structure dz (w wr:World)(ib tb cap:Nat)(ts:ao)(cnt:Int)(h:Nat)(k:Rec)(D s t:Nat)(T:ao):Prop where
 heap:wr.heap[ib]?=some (.cells #[.slice (some ⟨tb,0,none⟩) ts.length cap,.int .i64 (cnt-1)] 255 (0,0))
 row:∃q iq,wr.ownsRow 0 274 9 (.slice (some ⟨tb,0,none⟩) ts.length cap) ts.length ((T.set ((h+s)%ts.length) (some (q,iq))).flatMap bj)
 av:af (fun x=>x=ib∨x=tb) w wr
 sh:fe bl ts h k D s t T
theorem dz.ad {w wr s:World}{ib B cap:Nat}{ts:ao}{t:Int}{h:Nat}{k:Rec}{D z A:Nat}{q:ao}(E:dz w wr ib B cap ts t h k D z A q)(j:ae wr s):dz w s ib B cap ts t h k D z A q:=by
 obtain⟨q,⟨B,A,s⟩,t,z⟩:=E;exact⟨j.heap q,⟨B,A,j.bp s⟩,t.bg (j.av _),z⟩
theorem qG {home i n:Nat}(q:home<n)(j:i<n):(i+n-home)%n<n∧(home+(i+n-home)%n)%n=i:=by
 refine⟨bU _ (by omega),?_⟩;rw[Nat.add_mod_mod,show home+(i+n-home)=i+n by omega,Nat.add_mod_right,dT j]
theorem xt {h j q n:Nat}(s:j≤q)(t:q<n):((h+q)%n+n-(h+j)%n)%n=q-j:=by
 have s:0<n:=by omega
 have z:=bU (h+j) s;have A:=bU (h+q) s;obtain⟨s,t⟩:=qG z A;refine fm (a:=(h+j)%n) s (by omega) ?_;rw[t,Nat.mod_add_mod,show h+j+(q-j)=h+q by omega]
theorem dz.fi {w wr:World}{ib A cap:Nat}{ts:ao}{E:Int}{h:Nat}{k:Rec}{D s j:Nat}{z:ao}(t:dz w wr ib A cap ts E h k D s j z){c:Option (Rec×Int)}(I:ts[(h+j)%ts.length]?=some c)(B:j<ts.length) :
  ∀q,q<9→wr.cell? ⟨A,(h+j)%ts.length*9+q,none⟩=(bj c)[q]?:=by
 intro q J
 obtain⟨T,S,N⟩:=t.row
 have O:=t.sh.st
 have A:0<ts.length:=by omega
 have E:=bU (h+j) A
 have E:=bU (h+s) A
 have L:(h+j)%ts.length≠(h+s)%ts.length:=fun e=>by
  have:=fm (a:=h) B (show s<ts.length by omega) e;omega
 have A:(z.set ((h+s)%ts.length) (some (T,S)))[(h+j)%ts.length]?=some c:=by
  rw[gl (by rw[t.sh.len];exact E),ag L,t.sh.tail j O B];exact I
 rw[N.cellAt ((h+j)%ts.length*9+q) (by omega)]
 exact en bj 9 fC _ _ q c A J
theorem dz.hz {w wr:World}{ib B cap:Nat}{ts:ao}{E:Int}{h:Nat}{k:Rec}{D q N:Nat}{A:ao}(s:dz w wr ib B cap ts E h k D q N A) :
  ∃z t,∀j,j<9→wr.cell? ⟨B,(h+q)%ts.length*9+j,none⟩=(bj (some (z,t)))[j]?:=by
 obtain⟨z,t,L⟩:=s.row
 have B:=s.sh.st
 have B:=s.sh.tD
 have B:=s.sh.Dn
 have E:0<ts.length:=by omega
 have B:=bU (h+q) E
 refine⟨z,t,fun j J=>?_⟩
 have I:(A.set ((h+q)%ts.length) (some (z,t)))[(h+q)%ts.length]?=some (some (z,t)):=by
  rw[gl (by rw[s.sh.len];exact B),ah rfl]
 rw[L.cellAt ((h+q)%ts.length*9+j) (by omega)]
 exact en bj 9 fC _ _ j _ I J
theorem dz.fz {w wr:World}{ib q cap:Nat}{ts:ao}{t:Int}{h:Nat}{k:Rec}{D A B:Nat}{s:ao}(z:dz w wr ib q cap ts t h k D A B s)(j:Nat):wr.frozen? ⟨q,j,none⟩=false:=by
 obtain⟨t,s,q⟩:=z.row;exact q.frozenAt j
theorem pw {j:ao}{i:Nat}{c:Option (Rec×Int)}(h:j[i]?=some c):j.set i c=j:=by
 obtain⟨hi,j⟩:=List.getElem?_eq_some_iff.1 h;rw[←j,List.set_getElem_self]
theorem dz.move {w wr:World}{ib z cap:Nat}{ts:ao}{B:Int}{h:Nat}{k:Rec}{D q j:Nat}{t:ao}(s:dz w wr ib z cap ts B h k D q j t)(S:z≠ib)(W:j<D){r:Rec}{id:Int}(A:ao.at ts ((h+j)%ts.length) r id)
  {d:Nat} (L:d<ts.length) (N:(bl r ts.length+d)%ts.length=(h+j)%ts.length) (O:j-q≤d) :
  dz w (dO wr z ((h+q)%ts.length*9) (bj (some (r,id)))) ib z cap ts B h k D j (j+1) ((t.set ((h+q)%ts.length) (some (r,id))).set ((h+j)%ts.length) none):=by
 obtain⟨X,B,U⟩:=s.row
 have T:=s.sh.st
 have B:=s.sh.Dn
 have B:0<ts.length:=by omega
 have E:=bU (h+q) B
 have X:=bU (h+j) B
 have I:=jH z (bj (some (r,id))) ((h+q)%ts.length*9) wr
 have J:ao.at t ((h+j)%ts.length) r id:=by
  unfold ao.at at A ⊢;rw[s.sh.tail j T (by omega)];exact A
 have T:(h+j)%ts.length≠(h+q)%ts.length:=fun e=>by
  have:=fm (a:=h) (show j<ts.length by omega) (show q<ts.length by omega) e;omega
 have z:=kH bj fC (by rw[bZ];exact s.sh.len) U ((h+q)%ts.length) E (some (r,id))
 rw[List.set_set]at z
 have B:((t.set ((h+q)%ts.length) (some (r,id))).set ((h+j)%ts.length) none).set ((h+j)%ts.length) (some (r,id))=t.set ((h+q)%ts.length) (some (r,id)):=by
  rw[List.set_set];refine pw ?_;rw[gl (by rw[s.sh.len];exact E),ag T];exact J
 refine⟨?_,⟨r,id,?_⟩,s.av.bg (I.mono (fun x _ e=>.inr e)),s.sh.move W A L N O⟩
 ·exact(I.block ib (aM s.heap) (fun e=>S e.symm)).trans s.heap
 ·rw[B];exact z
theorem dz.bf {w wr:World}{ib A cap:Nat}{ts:ao}{z:Int}{h:Nat}{k:Rec}{D s j:Nat}{t:ao}(q:dz w wr ib A cap ts z h k D s j t)(L:j<D){r:Rec}{id:Int}(B:ao.at ts ((h+j)%ts.length) r id)
  {d:Nat} (E:d<ts.length) (I:(bl r ts.length+d)%ts.length=(h+j)%ts.length) (J:d<j-s):dz w wr ib A cap ts z h k D s (j+1) t:=
 ⟨q.heap,q.row,q.av,q.sh.bf L B E I J⟩
theorem dz.done {w wr:World}{ib q cap:Nat}{ts:ao}{z:Int}{h:Nat}{k:Rec}{D s:Nat}{t:ao}(j:dz w wr ib q cap ts z h k D s D t)(A:q≠ib) :
  (dO wr q ((h+s)%ts.length*9) (bj none)).heap[ib]?=some (.cells #[.slice (some ⟨q,0,none⟩) t.length cap,.int .i64 (z-1)] 255 (0,0)) ∧
  (dO wr q ((h+s)%ts.length*9) (bj none)).ownsRow 0 274 9 (.slice (some ⟨q,0,none⟩) t.length cap) t.length (t.flatMap bj) ∧
  af (fun x=>x=ib∨x=q) w (dO wr q ((h+s)%ts.length*9) (bj none)):=by
 obtain⟨z,t,B⟩:=j.row
 have t:=j.sh.st
 have t:=j.sh.Dn
 have t:0<ts.length:=by omega
 have z:=bU (h+s) t
 have t:=jH q (bj none) ((h+s)%ts.length*9) wr
 have q:=kH bj fC (by rw[bZ];exact j.sh.len) B ((h+s)%ts.length) z none
 rw[List.set_set,pw j.sh.gu]at q
 rw[j.sh.len]
 exact⟨(t.block ib (aM j.heap) (fun e=>A e.symm)).trans j.heap,q,j.av.bg (t.mono (fun x _ e=>.inr e))⟩
theorem dz.start {w wr:World}{ib j cap:Nat}{ts:ao}{q:Int}{h:Nat}{k:Rec}{s:Int}{D:Nat}(t:h<ts.length)(z:ao.at ts h k s)(hS:fe bl ts h k D 0 1 (ts.set h none))
  (heap:wr.heap[ib]?=some (.cells #[.slice (some ⟨j,0,none⟩) ts.length cap,.int .i64 (q-1)] 255 (0,0))) (row:wr.ownsRow 0 274 9 (.slice (some ⟨j,0,none⟩) ts.length cap) ts.length (ts.flatMap bj)) (A:af (fun x=>x=ib∨x=j) w wr) :
  dz w wr ib j cap ts q h k D 0 1 (ts.set h none):=by
 refine⟨heap,⟨k,s,?_⟩,A,hS⟩
 rw[show(h+0)%ts.length=h from dT t,List.set_set,pw z]
 exact row
theorem yo {w:World}{ib j cap:Nat}{ts:ao}{I:Int}(h:Nat)(k:Rec)(db:k.ok)(c':Int)(D p:Nat)(O:w.heap[ib]?=some (.cells #[.slice (some ⟨j,0,none⟩) ts.length cap,.int .i64 I] 255 (0,0)))
  (aw:w.ownsRow 0 274 9 (.slice (some ⟨j,0,none⟩) ts.length cap) ts.length (ts.flatMap bj)) (al:8≤ts.length) (U:ts.length≤4194304) (b1:ts.length=2 ^ p) (dj:1≤I) (dk:I≤4194304) (a8:h<ts.length) (a4:ao.at ts h k c')
  (bx:∀r id,ao.has ts r id→r.ok∧0≤id∧id≤4294967295) (hS:fe bl ts h k D 0 1 (ts.set h none))
  (bw:∀T,ae w T→Calls Tryz.prog 200 #[.pointer (some ⟨ib,0,none⟩),.agg #[.int .u8 k.al,.int .u8 k.I,.int .u8 k.J,.int .u8 k.lo.tag,.int .u32 k.lo.to,.int .u8 k.hi.tag,.int .u32 k.hi.to]] T fun e w'=>e=.returned (.int .i64 (h:Int))∧ae T w') :
  Calls Tryz.prog 166 #[.pointer (some ⟨ib,0,none⟩),.agg #[.int .u8 k.al,.int .u8 k.I,.int .u8 k.J,.int .u8 k.lo.tag,.int .u32 k.lo.to,.int .u8 k.hi.tag,.int .u32 k.hi.to]] w fun e w'=>e=.returned (.bool true)∧∃A N wr,dz w wr ib j cap ts I h k D A D N∧w'=dO wr j ((h+A)%ts.length*9) (bj none):=by
 have bn:w.cell? ⟨ib,0,none⟩=some (.slice (some ⟨j,0,none⟩) ts.length cap):=by rw[cell_of_row w ib 0 _ _ _ O];rfl
 have bp:w.cell? ⟨ib,1,none⟩=some (.int .i64 I):=by rw[cell_of_row w ib 1 _ _ _ O];rfl
 have bs:w.frozen? ⟨ib,1,none⟩=false:=frozen_of_row w ib 1 _ _ O
 have cj:=aM O
 obtain⟨c',a6⟩:=bF aw (k:=j) rfl
 have c':=aM a6
 have b0:ib≠j:=de O a6 (by decide)
 have b5:=(aw.cellAt (h*9+8) (by omega)).trans (en bj 9 fC ts h 8 _ a4 (by omega))
 have bq:w.cell? ⟨j,h*9+8,none⟩=some (.bool true):=b5.trans rfl
 have c':(h:Int)<(ts.length:Int):=by omega
 have ca:=aa O
 have cc:=aa aw
 have b8:=aa a4
 have ad:=aa hS
 have H:=aa bw
 have b9:=aa bx
 have S:=aa b1
 clear a6 O aw a4 hS bw b5 bx b1
 go_enter Tryz.func166,Tryz.ntmps166
 go_wp2_with (first|(go_at_call 200;refine(H.out _ kp).mono ?_;rintro e w1 ⟨rfl,a5⟩;have J:ae w w1:=(((ae.refl _).alloc _).trans a5);have br:=J.cell bn;have cd:=J.cell bp;have ce:=J.cell bq;have cf:=(Below.frozen (p:=⟨ib,1,none⟩) J cj).trans bs)|(go_at_call 210;refine(mB ib j ts.length cap h p _ (by simp[go_sem,br]) al U a8 S.out).mono ?_;rintro e O ⟨rfl,rfl⟩)|fail)
 have bt:dz w (w1.setCell ⟨ib,1,none⟩ (.int .i64 (I-1))) ib j cap ts I h k D 0 1 (ts.set h none):=by
  have b4:af (fun x=>x=ib) w1 (w1.setCell ⟨ib,1,none⟩ (.int .i64 (I-1))):=af.setCell (F:=fun x=>x=ib) (p:=⟨ib,1,none⟩) (af.refl _ _) (Or.inl rfl) _;refine dz.start a8 b8.out ad.out ?_ ?_ ((J.av _).bg (b4.mono (fun x _ bf=>.inl bf)));·exact heap_setCell_same _ ib 1 _ _ _ (J.heap ca.out)
  ·exact b4.bp (fun x bf e=>by simp[Value.ownBlock]at bf;omega) (J.bp cc.out)
 have cb:=aa bt
 clear bt
 have O:=J.size
 clear a5 J br cd ce cf bn bp bq bs
 go_loopg [5,6] (D-1) (fun gk J O wr=>∃(A s o i:Nat) (N:ao),s+gk=D∧Hid (o=(h+A)%ts.length)∧Hid (i=(h+s)%ts.length)∧J=.int .i64 (o:Int)∧O=.int .i64 (i:Int)∧dz w wr ib j cap ts I h k D A s N)
 case atStart=>
  have I:=ad.out.tD;exact⟨0,1,h,(h+1)%ts.length,_,by omega,aa (by rw[gA,dT a8]),aa rfl,rfl,by simp,cb.out⟩
 case round=>
  obtain⟨A,s,o,i,N,dl,cn,ci,rfl,rfl,E⟩:=hrel;have hi:=ci.out;have L:=cn.out;have I:=E.sh.st;have I:=E.sh.tD;have I:=E.sh.Dn;have be:0<ts.length:=by omega
  have bb:i<ts.length:=by rw[hi];exact bU _ be
  have co:o<ts.length:=by rw[L];exact bU _ be
  have I:(i:Int)<(ts.length:Int):=by omega
  have I:(o:Int)<(ts.length:Int):=by omega
  have cl:i≠o:=fun e=>by
   rw[hi,L]at e;have:=fm (a:=h) (show s<ts.length by omega) (show A<ts.length by omega) e;omega
  have a1:wr.cell? ⟨ib,0,none⟩=some (.slice (some ⟨j,0,none⟩) ts.length cap):=by rw[cell_of_row wr ib 0 _ _ _ E.heap];rfl
  have a7:=E.fz;obtain⟨J,I,B⟩:=E.hz;rw[←L]at B;have c1:wr.cell? ⟨j,o*9,none⟩=some _:=(B 0 (by omega)).trans rfl;have c2:wr.cell? ⟨j,o*9+1,none⟩=some _:=(B 1 (by omega)).trans rfl;have c3:wr.cell? ⟨j,o*9+2,none⟩=some _:=(B 2 (by omega)).trans rfl;have c4:wr.cell? ⟨j,o*9+3,none⟩=some _:=(B 3 (by omega)).trans rfl;have c5:wr.cell? ⟨j,o*9+4,none⟩=some _:=(B 4 (by omega)).trans rfl;have c6:wr.cell? ⟨j,o*9+5,none⟩=some _:=(B 5 (by omega)).trans rfl;have c7:wr.cell? ⟨j,o*9+6,none⟩=some _:=(B 6 (by omega)).trans rfl;have c8:wr.cell? ⟨j,o*9+7,none⟩=some _:=(B 7 (by omega)).trans rfl;have c9:wr.cell? ⟨j,o*9+8,none⟩=some _:=(B 8 (by omega)).trans rfl;have Z:=aa E;by_cases bd:s<D
  ·obtain⟨z,a0,av⟩:=ad.out.go s (by omega) bd;have t:=E.fi av (by omega);rw[←hi]at t;have cp:z.ok:=(b9.out z a0 ⟨_,av⟩).1;have b2:wr.cell? ⟨j,i*9,none⟩=some (.int .u8 z.al):=(t 0 (by omega)).trans rfl;have cv:wr.cell? ⟨j,i*9+1,none⟩=some (.int .u8 z.I):=(t 1 (by omega)).trans rfl;have cx:wr.cell? ⟨j,i*9+2,none⟩=some (.int .u8 z.J):=(t 2 (by omega)).trans rfl;have cy:wr.cell? ⟨j,i*9+3,none⟩=some (.int .u8 z.lo.tag):=(t 3 (by omega)).trans rfl;have cD:wr.cell? ⟨j,i*9+4,none⟩=some (.int .u32 z.lo.to):=(t 4 (by omega)).trans rfl;have cE:wr.cell? ⟨j,i*9+5,none⟩=some (.int .u8 z.hi.tag):=(t 5 (by omega)).trans rfl;have cS:wr.cell? ⟨j,i*9+6,none⟩=some (.int .u32 z.hi.to):=(t 6 (by omega)).trans rfl;have c0:wr.cell? ⟨j,i*9+7,none⟩=some (.int .u32 a0):=(t 7 (by omega)).trans rfl;have b3:wr.cell? ⟨j,i*9+8,none⟩=some (.bool true):=(t 8 (by omega)).trans rfl;obtain⟨W,am⟩:∃W,W=bl z ts.length:=⟨_,rfl⟩;have bD:W<ts.length:=(by rw[am];exact bU _ be);have a':=fun(T:World) (I:ae wr T)=>rh ib j ts.length cap p z cp T (I.cell a1) al U S.out;rw[←am]at a';have bg:=aa a';obtain⟨d,bv⟩:∃d,d=(i+ts.length-W)%ts.length:=⟨_,rfl⟩;have O:=qF i W p ts.length S.out U bD;have T:=qF i o p ts.length S.out U co;have I:=qG bD bb;have J:(i+ts.length-o)%ts.length=s-A:=(by rw[hi,L];exact xt (by omega) (by omega));rw[J]at T;rw[←bv]at O I;have bi:=aa (show ao.at ts ((h+s)%ts.length) z a0 from av);have X:=aa (show d<ts.length∧(bl z ts.length+d)%ts.length=(h+s)%ts.length from⟨I.1,by rw[←am,I.2,hi]⟩);have Y:=aa hi;have ab:=aa L;clear av t B E a' bv I hi L am J a7;have a7:=Z.out.fz;have I:∀a b:Nat,a<9→b<9→i*9+a≠o*9+b:=fun a b I a5 e=>cl (by omega);by_cases ch:d<s-A
   ·have cg:¬((s-A:Nat):Int)≤(d:Int):=(by omega);go_wp2_with (first|(go_at_call 211;refine(bg.out _ kp).mono ?_;rintro e b7 ⟨rfl,q⟩;have a3:=q.cell a1)|(go_at_call 210;refine(mB ib j ts.length cap i p _ a3 al U bb S.out).mono ?_;rintro e da ⟨rfl,rfl⟩)|fail)
    go_roundg (gk-1)
    case rel=>exact⟨A,s+1,o,(i+1)%ts.length,N,by omega,ab,aa (by rw[Y.out,Nat.mod_add_mod];rfl),rfl,by simp,(Z.out.bf bd bi.out X.out.1 X.out.2 ch).ad q⟩
    case measure=>omega
   ·have cg:((s-A:Nat):Int)≤(d:Int):=(by omega);go_wp2_with fail;refine(bg.out _ kp).mono ?_;rintro e b7 ⟨rfl,q⟩;have a3:=q.cell a1;have b6:=aB b2;dsimp only at b6;have I:∀I,b7.frozen? ⟨j,I,none⟩=false:=fun I=>(Below.frozen (p:=⟨j,I,none⟩) q b6).trans (a7 I);have I:=q.cell b2;have I:=q.cell c1;have I:=q.cell cv;have I:=q.cell c2;have I:=q.cell cx;have I:=q.cell c3;have I:=q.cell cy;have I:=q.cell c4;have I:=q.cell cD;have I:=q.cell c5;have I:=q.cell cE;have I:=q.cell c6;have I:=q.cell cS;have I:=q.cell c7;have I:=q.cell c0;have I:=q.cell c8;have I:=q.cell b3;have I:=q.cell c9;go_wp2_with fail;go_region;go_wp2_with (first|(go_at_call 210;refine(mB ib j ts.length cap i p _ (by simp[go_sem,a3,b0]) al U bb S.out).mono ?_;rintro e da ⟨rfl,rfl⟩)|fail)
    go_roundg (gk-1)
    case rel=>
     refine⟨s,s+1,i,(i+1)%ts.length,(N.set o (some (z,a0))).set i none,by omega,Y,aa (by rw[Y.out,Nat.mod_add_mod];rfl),rfl,by simp,?_⟩;have z:=(Z.out.ad q).move (fun e=>b0 e.symm) bd bi.out X.out.1 X.out.2 (by omega);rw[←ab.out,←Y.out]at z;exact z.ad (ae.refl _).drew
    case measure=>omega
  ·obtain rfl:s=D:=(by omega);have t:=E.fi ad.out.stop (by omega);rw[←hi]at t;have b3:wr.cell? ⟨j,i*9+8,none⟩=some (.bool false):=(t 8 (by omega)).trans rfl;have ab:=aa L;clear t B E hi L;go_wp2_with fail;go_ret;refine⟨rfl,A,N,wr,Z.out,?_⟩;rw[←ab.out];rfl
theorem yy {F:Nat→Prop}{w:World}{ib:Nat}{ts:ao}{n:Int}(h:dI F w ib ts n)(bi:n=(occ ts:Int))(r:Rec)(am:r.ok)(id:Int)(a7:ao.has ts r id) :
  Calls Tryz.prog 166 #[.pointer (some ⟨ib,0,none⟩),.agg #[.int .u8 r.al,.int .u8 r.I,.int .u8 r.J,.int .u8 r.lo.tag,.int .u32 r.lo.to,.int .u8 r.hi.tag,.int .u32 r.hi.to]] w fun e w'=>e=.returned (.bool true)∧af F w w' ∧
   ∃B,dI F w' ib B (n-1)∧n-1=(occ B:Int)∧∀j q,ao.has B j q↔ao.has ts j q∧j≠r:=by
 obtain⟨D,X⟩:=me (H:=bl) r h.room
 have s:=X.gj h.ok a7
 have B:=h.e1
 have al:0<ts.length:=by omega
 obtain⟨k,I⟩:∃k:Nat,k=(bl r ts.length+D)%ts.length:=⟨_,rfl⟩
 have a5:∀B,ae w B→Calls Tryz.prog 200 #[.pointer (some ⟨ib,0,none⟩),.agg #[.int .u8 r.al,.int .u8 r.I,.int .u8 r.J,.int .u8 r.lo.tag,.int .u32 r.lo.to,.int .u8 r.hi.tag,.int .u32 r.hi.to]] B fun e w'=>e=.returned (.int .i64 (k:Int))∧ae B w':=fun B B=>by
  rw[I];exact mi (h.ad B) r am D X
 have J:k<ts.length:=by rw[I];exact bU _ al
 rw[←I]at s
 obtain⟨e,ab⟩:=h.room
 obtain⟨av,B,a'⟩:=oX (h:=k) (List.getElem?_eq_some_iff.1 ab).1
 obtain⟨A,B,E,bb⟩:=rN (p:=fun d=>ts[(k+d)%ts.length]?=some none) (n:=av) (by rw[a'];exact ab)
 have a3:1≤A:=by
  rcases Nat.eq_zero_or_pos A with L|L
  ·subst L;rw[gA,dT J]at E;rw[E]at s;cases s
  ·exact L
 have a6:∀u,0<u→u<A→∃j q,ao.at ts ((k+u)%ts.length) j q:=fun u _ B=>by
  have z:=bb u B;have ad:=bU (k+u) al;cases Z:ts[(k+u)%ts.length]with
  |none=>exact(z (by rw[ar ad,Z])).elim
  |some x=>
   obtain⟨j,q⟩:=x;exact⟨j,q,by unfold ao.at;rw[ar ad,Z]⟩
 have hS:=fe.start h.ok J s a3 (by omega) E a6
 have B:1≤occ ts:=by
  have:=mD (ts:=ts) s;omega
 obtain⟨⟨N,cap,T,U,W⟩,O,⟨p,a2⟩,a0,a1,B,E,S⟩:=h
 obtain⟨B,a4⟩:=bF U (k:=N) rfl
 have bd:N≠ib:=de a4 T (by decide)
 refine(yo k r am id A p T U a0 a1 a2 (by omega) (by omega) J s S hS a5).mono ?_
 rintro s w' ⟨rfl,bn,aw,wr,Y,rfl⟩
 obtain⟨be,bf,bg⟩:=Y.done bd
 have t:=Y.sh
 have a8:=t.len
 have s:=t.occ
 refine⟨rfl,bg.mono (fun x _ z=>by rcases z with rfl|rfl;exact O;exact W),aw,⟨⟨N,cap,be,bf,W⟩,O,⟨p,by rw[a8];exact a2⟩,by omega,by omega,by omega,t.done,fun j q z=>S j q ((t.mem j q).1 z).1⟩,by omega,t.mem⟩
theorem qf {j s:World}{v u:Value}{b o:Nat}{q:Obj}(A:(j.alloc q).grownBy s v.ownBlock)(E:v.ownBlock≠some b)(z:j.cell? ⟨b,o,none⟩=some u)(I:j.frozen? ⟨b,o,none⟩=false) :
  s.cell? ⟨b,o,none⟩=some u∧s.frozen? ⟨b,o,none⟩=false:=by
 have B:ae j (j.alloc q):=(ae.refl j).alloc q
 have t:=aB z
 dsimp only at t
 have s:b<(j.alloc q).heap.size:=by rw[ai];omega
 exact⟨jd A E (B.cell z),lh A s E ((Below.frozen (p:=⟨b,o,none⟩) B t).trans I)⟩
theorem uM (q j:Nat)(id:Int)(r:Rec)(len cap:Nat)(z:Option Addr)(s A:Nat)(xs:List Value)(J room:Int)(w:World)(a':2≤id)(bb:id≤4294967295)
  (a7:w.cell? ⟨q,0,none⟩=some (.slice (some ⟨j,0,none⟩) len cap)) (a8:w.cell? ⟨q,1,none⟩=some (.slice z s A)) (ab:w.cell? ⟨q,2,none⟩=some (.int .i64 J)) (bD:1≤J) (b0:J≤1048576)
  (bd:w.frozen? ⟨q,1,none⟩=false) (be:w.frozen? ⟨q,2,none⟩=false) (bi:len≤1048576) (bg:id-2<(len:Int))
  (t:∀I,I<9→w.cell? ⟨j,(id-2).toNat*9+I,none⟩=(cX (some r))[I]?) (b1:∀I,w.frozen? ⟨j,I,none⟩=false) (bn:j≠q)
  (am:w.ownsRow 0 50 1 (.slice z s A) s xs) (b2:s≤1048576) (ad:Value.ownBlock (.slice z s A)≠some q) (al:Value.ownBlock (.slice z s A)≠some j) :
  Calls Tryz.prog 167 #[.pointer (some ⟨q,0,none⟩),.int .u32 id] w fun e w'=>e=.returned (.bool true)∧∃g L w1 a6,((dO w j ((id-2).toNat*9) (cX none)).alloc a6).grownBy w1 (Value.ownBlock (.slice z s A))∧(Value.ownBlock (.slice z s A)=some g∨w.heap.size≤g) ∧
   w1.ownsRow 0 50 1 (.slice (some ⟨g,0,none⟩) (s+1) L) (s+1) (xs++[.int .u32 id])∧w'=(w1.setCell ⟨q,1,none⟩ (.slice (some ⟨g,0,none⟩) (s+1) L)).setCell ⟨q,2,none⟩ (.int .i64 (J-1)):=by
 obtain⟨o,E⟩:∃o,o=(id-2).toNat*9:=⟨_,rfl⟩
 rw[←E]at t ⊢
 have bt:w.cell? ⟨j,o,none⟩=some (.int .u8 r.al):=(t 0 (by omega)).trans rfl
 have I:w.cell? ⟨j,o+1,none⟩=some (.int .u8 r.I):=(t 1 (by omega)).trans rfl
 have I:w.cell? ⟨j,o+2,none⟩=some (.int .u8 r.J):=(t 2 (by omega)).trans rfl
 have I:w.cell? ⟨j,o+3,none⟩=some (.int .u8 r.lo.tag):=(t 3 (by omega)).trans rfl
 have I:w.cell? ⟨j,o+4,none⟩=some (.int .u32 r.lo.to):=(t 4 (by omega)).trans rfl
 have I:w.cell? ⟨j,o+5,none⟩=some (.int .u8 r.hi.tag):=(t 5 (by omega)).trans rfl
 have I:w.cell? ⟨j,o+6,none⟩=some (.int .u32 r.hi.to):=(t 6 (by omega)).trans rfl
 have bv:w.cell? ⟨j,o+7,none⟩=some (.bool true):=(t 7 (by omega)).trans rfl
 have I:w.cell? ⟨j,o+8,none⟩=some (.int .i64 0):=(t 8 (by omega)).trans rfl
 have S:=fun(I:World) (J:ae w I)=>qj q j id len cap I a' bb (J.cell a7) bi bg (by rw[←E];exact J.cell bv)
 rw[←E]at S
 have a1:=aa S
 obtain⟨bs,hi,bp,bq,br⟩:=info_parts mj
 have J:q<w.heap.size:=aB ab
 have I:j<w.heap.size:=aB bt
 have B:=jH j (cX none) o w
 have W:=B.bp (fun k I e=>al (by rw[I,e])) am
 have I:q≠j:=bn.symm
 have X:=B.cell (a:=⟨q,1,none⟩) I a8
 have Y:=B.cell (a:=⟨q,2,none⟩) I ab
 have N:=B.frozen (a:=⟨q,1,none⟩) J I bd
 have O:=B.frozen (a:=⟨q,2,none⟩) J I be
 simp only[dO,cX,df,Rec.zero,List.cons_append,List.nil_append]at W X Y N O
 have a3:=aa W
 have a4:=aa X
 have a5:=aa Y
 have aw:=aa N
 have a0:=aa O
 have Z:=aa ad
 have j:=aa E
 clear t S B W am ad al E X Y N O
 go_enter Tryz.func167,Tryz.ntmps167
 go_wp2_with (first
  |(go_at_call 198;refine(a1.out _ kp).mono ?_;rintro e w1 ⟨rfl,rfl⟩)
  |(at_builtin;refine uw rfl _ _ 88 rfl 0 50 bs (.int .u32 0) 1 4 Tryz.underlying88 hi bp bq br rfl (by decide) (.slice z s A) s xs rfl (a3.out.alloc _) ⟨w.heap.size,0,none⟩ 1 1 [.int .u32 id] rfl rfl (eU _ _ _ _ (by simp)) (by simp[Value.oneCell']) (by unfold maxLen;omega) (by omega) (Nat.zero_le _) ?_;intro b4 bw av T bf;obtain⟨g,L,rfl⟩:=mF av (by omega);obtain⟨b3,bx⟩:=qf T Z.out a4.out aw.out;obtain⟨q,j⟩:=qf T Z.out a5.out a0.out)
  |fail)
 go_ret
 refine⟨rfl,g,L,bw,_,T,?_,av,rfl⟩
 rcases bf g rfl with U|U
 ·exact .inl U
 ·right;simp only[ai,au]at U;omega
theorem uV {F:Nat→Prop}{w:World}{j:Nat}{cs:List (Option Rec)}{gone:List Int}{t room:Int}(h:dy F w j cs gone t room)(id:Int)(r:Rec)(bf:look cs id=some r)(br:1≤t) :
  Calls Tryz.prog 167 #[.pointer (some ⟨j,0,none⟩),.int .u32 id] w fun e w'=>e=.returned (.bool true)∧af F w w'∧dy (aC F w w') w' j (cs.set (id-2).toNat none) (gone++[id]) (t-1) room:=by
 have bq:=h.cell
 obtain⟨a4,a5,b1⟩:=ck bf
 obtain⟨⟨b6,bf,z,X,S,b7,am⟩,a2,Z,b4,b5,a6,a7,a8⟩:=h
 have a':w.cell? ⟨j,1,none⟩=some bf:=by rw[cell_of_row w j 1 _ _ _ z];rfl
 have bb:w.cell? ⟨j,2,none⟩=some (.int .i64 t):=by rw[cell_of_row w j 2 _ _ _ z];rfl
 have aw:∀o,w.frozen? ⟨j,o,none⟩=false:=fun o=>frozen_of_row w j o _ _ z
 have bi:=aM z
 obtain⟨bf,O,ab,bp⟩:=bq
 obtain⟨s,rfl,a3,av,b0,bv⟩:=bp (by omega)
 obtain⟨J,L,rfl,_⟩:=dv S
 obtain⟨bd,be,rfl,bf⟩:=dv X
 have ad:w.cell? ⟨j,0,none⟩=some (.slice bd cs.length be):=by rw[cell_of_row w j 0 _ _ _ z];rfl
 rw[ab]at ad
 cases ad
 obtain⟨ad,bs⟩:=bF X (k:=s) rfl
 have a0:Value.ownBlock (.slice J gone.length L)≠some j:=by
  intro e;obtain⟨U,A⟩:=bF S e;exact de A z (by decide) rfl
 have a1:Value.ownBlock (.slice J gone.length L)≠some s:=by
  intro e;obtain⟨U,A⟩:=bF S e;exact de A bs (by decide) rfl
 have bx:(id-2).toNat<cs.length:=by omega
 refine(uM j s id r cs.length O J gone.length L (gone.map (Value.int .u32)) t room w a4 (by omega) ab a' bb br (by omega) (aw 1) (aw 2) Z a5 (b0 _ _ b1) bv a3 S (by omega) a0 a1).mono ?_
 rintro e w' ⟨rfl,g,W,w1,N,B,bw,Y,rfl⟩
 have b3:=jH s (cX none) ((id-2).toNat*9) w
 have bg:=kH cX lY rfl X (id-2).toNat bx none
 have bn:ae (dO w s ((id-2).toNat*9) (cX none)) ((dO w s ((id-2).toNat*9) (cX none)).alloc N):=(ae.refl _).alloc N
 have S:af (fun k=>k=s) w ((dO w s ((id-2).toNat*9) (cX none)).alloc N):=b3.alloc N
 have bD:af F w w1:=(S.mono (fun k _ e=>by rw[e];exact av)).b8 B (fun k q=>.inl (am k q))
 have al:w1.heap[j]?=some (.cells #[.slice (some ⟨s,0,none⟩) cs.length O,.slice J gone.length L,.int .i64 t,.int .i64 room] 194 (0,0)):=
  (B.block j (by have:=S.size;omega) (fun e=>a0 e.symm)).trans ((S.block j bi (fun e=>a3 e.symm)).trans z)
 have z:g≠j:=by
  obtain⟨U,A⟩:=bF Y (k:=g) rfl;exact de A al (by decide)
 have bt:w1.ownsRow 0 271 9 (.slice (some ⟨s,0,none⟩) cs.length O) cs.length ((cs.set (id-2).toNat none).flatMap cX):=
  af.bp (F:=fun k=>Value.ownBlock (.slice J gone.length L)=some k) ⟨B.os,B.tape,B.output,B.size,fun k q z=>B.block k q (fun e=>z e.symm)⟩ (fun k q e=>by simp[Value.ownBlock]at q;subst q;exact a1 e) (bn.bp bg)
 have b2:af (fun k=>k=j) w1 (w1.setCell ⟨j,1,none⟩ (.slice (some ⟨g,0,none⟩) (gone.length+1) W)):=af.setCell (F:=fun k=>k=j) (p:=⟨j,1,none⟩) (af.refl _ w1) (Or.inl rfl) _
 have T:af (fun k=>k=j) w1 ((w1.setCell ⟨j,1,none⟩ (.slice (some ⟨g,0,none⟩) (gone.length+1) W)).setCell ⟨j,2,none⟩ (.int .i64 (t-1))):=af.setCell (F:=fun k=>k=j) (p:=⟨j,2,none⟩) b2 (Or.inl rfl) _
 have t:g<w1.heap.size:=by
  obtain⟨U,A⟩:=bF Y (k:=g) rfl;exact aM A
 refine⟨rfl,bD.bg (T.mono (fun k _ e=>by rw[e];exact a2)),⟨⟨.slice (some ⟨s,0,none⟩) cs.length O,.slice (some ⟨g,0,none⟩) (gone.length+1) W,?_,?_,?_,?_,?_⟩,.inl a2,by rw[bZ];exact Z,?_,by omega,a6,?_,?_⟩⟩
 ·exact heap_setCell_same _ j 2 _ _ _ (heap_setCell_same _ j 1 _ _ _ al)
 ·rw[bZ];exact T.bp (fun k q e=>by simp[Value.ownBlock]at q;omega) bt
 ·rw[di,fL];exact T.bp (fun k q e=>by simp[Value.ownBlock]at q;omega) Y
 ·intro k q;simp[Value.ownBlock]at q;subst q;exact .inl av
 ·intro k q;simp[Value.ownBlock]at q;subst q;rcases bw with E|E;·exact .inl (am g E)
  ·exact .inr ⟨E,by have:=T.size;omega⟩
 ·rw[bZ,di];simp;omega
 ·intro x I;rw[bZ];rw[List.mem_append,cF]at I;rcases I with I|rfl;·exact a7 x I
  ·exact⟨a4,a5⟩
 ·intro x I;rcases List.mem_or_eq_of_mem_set I with E|E;·exact a8 x E
  ·cases E
structure fw (F:Nat→Prop)(W0 W:World)(sb ab ib:Nat)(M:St)(l:List Int)(ka ki:Nat):Prop where
 head:W.heap[sb]?=some (.cells #[.int .i64 M.n,.pointer (some ⟨ab,0,none⟩),.pointer (some ⟨ib,0,none⟩)] 132 (0,0))
 a8:∃ts Fa Fi,dy Fa W ab (dV M.cs (l.take ka)) (M.gone++l.take ka) (M.len-ka) M.room∧dI Fi W ib ts (M.len-ki)∧M.len-ki=(occ ts:Int) ∧
  (∀r id,ao.has ts r id↔look (dV M.cs (l.take ki)) id=some r)∧(∀k,Fa k→F k∨(W0.heap.size≤k∧k<W.heap.size))∧(∀k,Fi k→F k)∧(∀k,Fa k→¬Fi k)∧¬Fa sb∧¬Fi sb
 av:af F W0 W
 own:F sb
 lt:∀k,F k→k<W0.heap.size
theorem ak.hM {F:Nat→Prop}{w:World}{sb:Nat}{M:St}(h:ak F w sb M)(l:List Int):∃j ib,fw F w w sb j ib M l 0 0:=by
 obtain⟨⟨j,ib,ts,q,s,z,B,E,I,J,L,N,O,S,A⟩,t,a2,T⟩:=h;refine⟨j,ib,z,⟨ts,q,s,?_,?_,?_,?_,fun k T=>.inl (L k T),N,O,S,A⟩,af.refl _ w,t,a2⟩;·simpa[dV]using B
 ·simpa using E
 ·simpa using I
 ·simpa[dV]using J
theorem fw.ad {F:Nat→Prop}{s q W':World}{sb t ib:Nat}{M:St}{l:List Int}{z A:Nat}(h:fw F s q sb t ib M l z A)(j:ae q W'):fw F s W' sb t ib M l z A:=by
 obtain⟨q,⟨ts,s,t,z,A,L,N,O,S,T,U,W⟩,B,E,I⟩:=h
 exact⟨(j.block sb (aM q)).trans q,⟨ts,s,t,z.ad j,A.ad j,L,N,fun k J=>by
  rcases O k J with q|q;·exact .inl q
  ·exact .inr ⟨q.1,bI q.2 j.size⟩,S,T,U,W⟩,B.bg (j.av _),E,I⟩
theorem fw.get {F:Nat→Prop}{s j:World}{sb q ib:Nat}{M:St}{l:List Int}{k:Nat}{id:Int}{r:Rec}(h:fw F s j sb q ib M l k k)(hid:id≤4294967295)(t:look (dV M.cs (l.take k)) id=some r) :
  Calls Tryz.prog 133 #[.pointer (some ⟨q,0,none⟩),.int .u32 id] j fun e w'=>e=.returned (.tuple #[.agg #[.int .u8 r.al,.int .u8 r.I,.int .u8 r.J,.int .u8 r.lo.tag,.int .u32 r.lo.to,.int .u8 r.hi.tag,.int .u32 r.hi.to],.bool true])∧ae j w':=by
 obtain⟨z,⟨ts,q,s,j,_⟩,_⟩:=h
 exact qh j id hid r t
theorem fw.hA {F:Nat→Prop}{E B:World}{sb I ib:Nat}{M:St}{l:List Int}{k:Nat}{id:Int}{r:Rec}(h:fw F E B sb I ib M l k k)(hid:l[k]?=some id)(Y:2≤id)(al:r.ok)(z:look (dV M.cs (l.take k)) id=some r)
  (ad:∀A i q,look (dV M.cs (l.take k)) i=some A→look (dV M.cs (l.take k)) q=some A→i=q) :
  Calls Tryz.prog 166 #[.pointer (some ⟨ib,0,none⟩),.agg #[.int .u8 r.al,.int .u8 r.I,.int .u8 r.J,.int .u8 r.lo.tag,.int .u32 r.lo.to,.int .u8 r.hi.tag,.int .u32 r.hi.to]] B fun e w'=>e=.returned (.bool true)∧fw F E w' sb I ib M l k (k+1):=by
 obtain⟨J,⟨ts,T,U,a4,B,E,L,a5,N,O,a6,S⟩,av,ab,Z⟩:=h
 refine(yy B E r al id ((L r id).2 z)).mono ?_
 rintro e w' ⟨rfl,s,a7,a0,a1,a3⟩
 have am:l.take (k+1)=l.take k++[id]:=by rw[List.take_add_one,hid];rfl
 refine⟨rfl,(s.block sb (aM J) S).trans J,⟨a7,T,U,a4.a4 s O,?_,?_,?_,fun q t=>?_,N,O,a6,S⟩,av.bg (s.mono (fun q _ t=>N q t)),ab,Z⟩
 ·rw[show M.len-((k+1:Nat):Int)=M.len-(k:Int)-1 by omega];exact a0
 ·rw[show M.len-((k+1:Nat):Int)=M.len-(k:Int)-1 by omega];exact a1
 ·intro A aw;rw[a3,L,am,qJ,rR Y];constructor
  ·rintro⟨j,W⟩;rw[ag (fun e=>by subst e;rw[z]at j;cases j;exact W rfl)];exact j
  ·intro j;by_cases e:aw=id;·rw[ah e]at j;cases j
   ·rw[ag e]at j;exact⟨j,fun X=>by subst X;exact e (ad _ _ _ j z)⟩
 ·rcases a5 q t with j|j;·exact .inl j
  ·exact .inr ⟨j.1,bI j.2 s.size⟩
theorem fw.hr {F:Nat→Prop}{J B:World}{sb E ib:Nat}{M:St}{l:List Int}{k:Nat}{id:Int}{r:Rec}(h:fw F J B sb E ib M l k (k+1))(hid:l[k]?=some id)(al:look (dV M.cs (l.take k)) id=some r)(am:1≤M.len-k) :
  Calls Tryz.prog 167 #[.pointer (some ⟨E,0,none⟩),.int .u32 id] B fun e w'=>e=.returned (.bool true)∧fw F J w' sb E ib M l (k+1) (k+1):=by
 obtain⟨N,⟨ts,Z,ab,E,a4,a5,a6,U,W,X,Y,a7⟩,z,av,O⟩:=h
 refine(uV E id r al am).mono ?_
 rintro e w' ⟨rfl,t,a3⟩
 have a0:l.take (k+1)=l.take k++[id]:=by rw[List.take_add_one,hid];rfl
 have a1:=z.size
 have T:=t.size
 have aw:=aM N
 refine⟨rfl,(t.block sb aw Y).trans N,⟨ts,aC Z B w',ab,?_,a4.a4 t (fun q j A=>X q A j),a5,a6,fun q j=>?_,W,fun q j A=>?_,fun j=>?_,a7⟩,?_,av,O⟩
 ·rw[a0,qJ,←eP,show M.len-((k+1:Nat):Int)=M.len-(k:Int)-1 by omega];exact a3
 ·rcases j with j|⟨L,I⟩
  ·rcases U q j with s|s;·exact .inl s
   ·exact .inr ⟨s.1,bI s.2 T⟩
  ·exact .inr ⟨by omega,I⟩
 ·rcases j with j|⟨L,I⟩;·exact X q j A
  ·have:=O q (W q A);omega
 ·rcases j with j|⟨L,I⟩;·exact Y j
  ·omega
 ·refine⟨by rw[t.os,z.os],by rw[t.tape,z.tape],by rw[t.output,z.output],eF a1 T,fun q j S=>?_⟩;rw[t.block q (by omega) (fun ad=>?_),z.block q j S];rcases U q ad with s|s;·exact S s
  ·omega
theorem fw.done {F:Nat→Prop}{w B L W':World}{sb N ib d:Nat}{M:St}{roots:List Int}(Z:M.wf)(z:ae w B)(hF:∀k,F k→k<w.heap.size)(h:fw F B L sb N ib M (eo M roots) (eo M roots).length (eo M roots).length)
  (aw:w.heap.size≤d) (a0:d<B.heap.size) (s:af (fun k=>k=d) L W') :
  af F w W'∧ak (aC F w W') W' sb (dG M roots):=by
 obtain⟨O,⟨ts,I,J,E,T,U,W,X,Y,al,am,av⟩,A,S,B⟩:=h
 rw[List.take_length]at E W
 have B:=pK M roots
 rw[←B]at E T U
 have B:=z.size
 have B:=A.size
 have B:=s.size
 have ad:∀j,J j→¬(j=d):=fun j q e=>by have:=hF j (Y j q);omega
 have ab:∀j,I j→¬(j=d):=fun j q e=>by
  rcases X j q with t|t;·have:=hF j t;omega
  ·omega
 refine⟨?_,⟨N,ib,ts,I,J,(s.block sb (aM O) (fun e=>by have:=hF sb S;omega)).trans O,E.a4 s ab,T.a4 s ad,U,W,fun j q=>?_,fun j q=>.inl (Y j q),al,am,av⟩,.inl S,fun j q=>?_,Z.e8 roots (by omega)⟩
 ·refine⟨by rw[s.os,A.os,z.os],by rw[s.tape,A.tape,z.tape],by rw[s.output,A.output,z.output],by omega,fun j q B=>?_⟩;rw[s.block j (by omega) (by omega),A.block j (by omega) B,z.block j q]
 ·rcases X j q with t|t;·exact .inl t
  ·exact .inr ⟨by omega,by omega⟩
 ·rcases q with q|q;·have:=hF j q;omega
  ·exact q.2
theorem xY {M:St}{roots j:List Int}(h:gw M.cs roots j):(cI M.cs).filter (fun x=>!decide (x∈j))=eo M roots:=by
 unfold eo;refine List.filter_congr (fun x _=>?_);have:x∈j↔x∈aU M.cs roots:=by rw[h.fb,gR]
 simp[this]
end Go.Proofs.YtafkamlhimkbmaaGreat
