/-
  Sweep, plainly: what goes, and the state behind it.
-/
import Derived.Test.YtpgcbmbnognieaaGreatPPermR
import Derived.Test.YtpgcbmbnognieaaGreatPReachA
namespace Go.Proofs.YtpgcbmbnognieaaGreat
set_option maxRecDepth 1000000
set_option maxHeartbeats 8000000
set_option linter.unusedSimpArgs false
set_option linter.unusedVariables false

noncomputable def goneL (M:St)(roots:List Int):List Int:=(idsL M.cs).filter (fun x=>!decide (x∈reachL M.cs roots))

def dropCs (cs:List (Option Rec))(l:List Int):List (Option Rec):=l.foldl (fun c id=>c.set (id-2).toNat none) cs

noncomputable def sweepSt (M:St)(roots:List Int):St:={ M with cs:=dropCs M.cs (goneL M roots),gone:=M.gone++goneL M roots }

theorem dropCs_length (cs:List (Option Rec))(l:List Int):(dropCs cs l).length=cs.length:=by
 unfold dropCs
 induction l generalizing cs with
 | nil=>rfl
 | cons x l ih=>rw [List.foldl_cons,ih,List.length_set]

theorem dropCs_step (cs:List (Option Rec))(l:List Int)(id:Int):dropCs cs (l++[id])=(dropCs cs l).set (id-2).toNat none:=by
 unfold dropCs
 rw [List.foldl_append]
 rfl

theorem look_set {cs:List (Option Rec)}{id:Int}(h:2≤id)(x:Int):look (cs.set (id-2).toNat none) x=if x=id then none else look cs x:=by
 unfold look
 by_cases hx:x<2
 ·rw [if_pos hx,if_neg (by omega),if_pos hx]
 ·rw [if_neg hx]
  by_cases he:x=id
  ·subst he
   rw [if_pos rfl,List.getElem?_set]
   simp
   split<;>rfl
  ·rw [if_neg he,if_neg hx,List.getElem?_set,if_neg (by omega)]

theorem look_drop {cs:List (Option Rec)}{l:List Int}(h:∀ x∈l,2≤x)(x:Int):look (dropCs cs l) x=if x∈l then none else look cs x:=by
 induction l generalizing cs with
 | nil=>simp [dropCs]
 | cons y l ih=>
  show look (dropCs (cs.set (y-2).toNat none) l) x=_
  rw [ih (fun z hz=>h z (List.mem_cons_of_mem _ hz)),look_set (h y List.mem_cons_self)]
  by_cases h1:x∈l
  ·simp [h1]
  ·by_cases h2:x=y
   ·simp [h2]
   ·simp [h1,h2]

theorem goneL_mem {M:St}{roots:List Int}{x:Int}:x∈goneL M roots↔look M.cs x≠none∧¬Reaches M.cs roots x:=by
 unfold goneL
 rw [List.mem_filter,idsL_mem]
 simp [mem_reachL]

theorem goneL_rising (M:St)(roots:List Int):(goneL M roots).Pairwise (·<·):=List.Pairwise.filter _ (idsFrom_rising _ _)

theorem goneL_nodup (M:St)(roots:List Int):(goneL M roots).Nodup:=rising_nodup (goneL_rising M roots)

theorem goneL_two {M:St}{roots:List Int}{x:Int}(h:x∈goneL M roots):2≤x∧x-2<(M.cs.length:Int):=by
 obtain⟨h1,_⟩:=goneL_mem.1 h
 cases hl:look M.cs x with
 | none=>exact absurd hl h1
 | some r=>have:=look_some hl;omega

theorem look_sweep {M:St}{roots:List Int}(x:Int):look (sweepSt M roots).cs x=if x∈goneL M roots then none else look M.cs x:=
 look_drop (fun z hz=>(goneL_two hz).1) x

theorem look_sweep_some {M:St}{roots:List Int}{x:Int}{r:Rec}:look (sweepSt M roots).cs x=some r↔look M.cs x=some r∧Reaches M.cs roots x:=by
 rw [look_sweep]
 by_cases h:x∈goneL M roots
 ·rw [if_pos h]
  exact⟨fun hh=>(by cases hh),fun hh=>absurd hh.2 (goneL_mem.1 h).2⟩
 ·rw [if_neg h]
  exact⟨fun hh=>⟨hh,Classical.byContradiction fun hn=>h (goneL_mem.2 ⟨by rw [hh];simp,hn⟩)⟩,fun hh=>hh.1⟩

theorem sweep_len (M:St)(roots:List Int):(sweepSt M roots).len=M.len-((goneL M roots).length:Int):=by
 unfold St.len sweepSt
 simp only [dropCs_length,List.length_append]
 omega

theorem leads_sweep {M:St}{roots:List Int}{f:Int}{e:Edge}{l:Int}(h:M.leads f e l=true)(hr:look M.cs e.to≠none→Reaches M.cs roots e.to):(sweepSt M roots).leads f e l=true:=by
 unfold St.leads at h ⊢
 simp only [Bool.and_eq_true,Bool.or_eq_true] at h ⊢
 refine⟨h.1,?_⟩
 rcases h.2 with h2|h2
 ·exact .inl h2
 ·right
  cases hk:look M.cs e.to with
  | none=>rw [hk] at h2;simp at h2
  | some r=>
   rw [look_sweep_some.2 ⟨hk,hr (by rw [hk];simp)⟩]
   rw [hk] at h2
   exact h2

theorem St.wf.sweep {M:St}(h:M.wf)(roots:List Int)(hl:0≤(sweepSt M roots).len):(sweepSt M roots).wf:=by
 have hlen:=sweep_len M roots
 refine⟨h.n0,h.n16,?_,?_,?_,?_,hl,h.room0,h.room1,?_⟩
 ·intro id hid
  have hid':id∈M.gone∨id∈goneL M roots:=List.mem_append.1 hid
  have hcl:(sweepSt M roots).cs.length=M.cs.length:=dropCs_length _ _
  rw [hcl,look_sweep]
  rcases hid' with h1|h1
  ·obtain⟨g1,g2,g3⟩:=h.gone id h1
   exact⟨g1,g2,by split;rfl;exact g3⟩
  ·have:=goneL_two h1
   exact⟨this.1,this.2,by rw [if_pos h1]⟩
 ·refine List.nodup_append.2 ⟨h.nodup,goneL_nodup M roots,?_⟩
  intro a ha b hb hab
  subst hab
  exact(goneL_mem.1 hb).1 (h.gone a ha).2.2
 ·intro id r hr
  obtain⟨h1,h2⟩:=look_sweep_some.1 hr
  have hg:=h.good id r h1
  have hc:=Reaches.closed M.cs roots id r h2 h1
  unfold St.bad at hg ⊢
  simp only [Bool.or_eq_false_iff,Bool.not_eq_false'] at hg ⊢
  exact⟨⟨hg.1.1,leads_sweep hg.1.2 hc.1⟩,leads_sweep hg.2 hc.2⟩
 ·intro r id id' h1 h2
  exact h.once r id id' (look_sweep_some.1 h1).1 (look_sweep_some.1 h2).1
 ·have:=h.full
  show(sweepSt M roots).len≤M.room
  omega

theorem mod_inj {a x y n:Nat}(hx:x<n)(hy:y<n)(h:(a+x)%n=(a+y)%n):x=y:=by
 have key:∀ x y,x<n→y<n→x≤y→(a+x)%n=(a+y)%n→x=y:=by
  intro x y hx hy hle h
  have h1:(a+y)%n=((a+x)%n+(y-x))%n:=by rw [Nat.mod_add_mod,show a+x+(y-x)=a+y by omega]
  have hlt:=Nat.mod_lt (a+x) (show n > 0 by omega)
  by_cases hc:(a+x)%n+(y-x)<n
  ·rw [Nat.mod_eq_of_lt hc] at h1
   omega
  ·have h2:((a+x)%n+(y-x))%n=(a+x)%n+(y-x)-n:=by
    rw [show(a+x)%n+(y-x)=(a+x)%n+(y-x)-n+n by omega,Nat.add_mod_right,Nat.mod_eq_of_lt (by omega)]
    omega
   omega
 rcases Nat.le_total x y with hle|hle
 ·exact key x y hx hy hle h
 ·exact(key y x hy hx hle h.symm).symm

theorem path_idx {H h n d D u v:Nat}(hd:d≤D)(hD:D<n)(hu:u<n)(hv:v<n)(h1:(H+d)%n=(h+u)%n)(h2:(H+D)%n=(h+v)%n):u+(D-d)=v∨u+(D-d)=v+n:=by
 have e:(h+(u+(D-d)))%n=(h+v)%n:=by
  rw [← h2,show h+(u+(D-d))=(h+u)+(D-d) by omega,← Nat.mod_add_mod,← h1,Nat.mod_add_mod,show H+d+(D-d)=H+D by omega]
 by_cases hc:u+(D-d)<n
 ·exact .inl (mod_inj hc hv e)
 ·right
  have e2:(h+(u+(D-d)-n))%n=(h+v)%n:=by
   rw [← e,show h+(u+(D-d))=h+(u+(D-d)-n)+n by omega,Nat.add_mod_right]
  have:=mod_inj (by omega) hv e2
  omega

theorem path_at {H h n d u e:Nat}(h1:(H+d)%n=(h+u)%n):(H+(d+e))%n=(h+(u+e))%n:=by
 rw [show H+(d+e)=(H+d)+e by omega,← Nat.mod_add_mod,h1,Nat.mod_add_mod,show h+u+e=h+(u+e) by omega]

theorem at_inj {ts:Tab}{i:Nat}{r r':Rec}{id id':Int}(h:Tab.at ts i r id)(h':Tab.at ts i r' id'):r=r'∧id=id':=by
 unfold Tab.at at h h'
 rw [h] at h'
 cases h'
 exact⟨rfl,rfl⟩

structure Shift (H:Rec→Nat→Nat)(ts:Tab)(h:Nat)(k:Rec)(D s t:Nat)(T:Tab):Prop where
 len:T.length=ts.length
 st:s<t
 tD:t≤D
 Dn:D<ts.length
 hole:T[(h+s)%ts.length]?=some none
 tail:∀ u,s<u→u<ts.length→T[(h+u)%ts.length]?=ts[(h+u)%ts.length]?
 stop:ts[(h+D)%ts.length]?=some none
 go:∀ u,0<u→u<D→∃ r id,Tab.at ts ((h+u)%ts.length) r id
 uniq:∀ i j r id id',Tab.at T i r id→Tab.at T j r id'→i=j
 mem:∀ r id,Tab.has T r id↔Tab.has ts r id∧r≠k
 reach:∀ v r id,v<ts.length→Tab.at T ((h+v)%ts.length) r id→∃ d,d<ts.length∧(H r ts.length+d)%ts.length=(h+v)%ts.length ∧
  ∀ e,e<d→(∃ r' id',Tab.at T ((H r ts.length+e)%ts.length) r' id')∨((H r ts.length+e)%ts.length=(h+s)%ts.length∧t≤v)
 occ:occ T+1=occ ts

theorem idx_of {h n i:Nat}(hi:i<n):∃ v,v<n∧(h+v)%n=i:=mod_reach hi

theorem occ_set_none {ts:Tab}{i:Nat}{r:Rec}{id:Int}(h:Tab.at ts i r id):occ (ts.set i none)+1=occ ts:=by
 unfold occ Tab.at at *
 obtain⟨hi,he⟩:=List.getElem?_eq_some_iff.1 h
 rw [List.countP_set hi,he]
 have:0<List.countP (fun x=>x.isSome) ts:=List.countP_pos_iff.2 ⟨_,List.getElem_mem hi,by rw [he];rfl⟩
 simp
 omega

theorem occ_set_some {ts:Tab}{i:Nat}{r:Rec}{id:Int}(h:ts[i]?=some none):occ (ts.set i (some (r,id)))=occ ts+1:=by
 unfold occ
 obtain⟨hi,he⟩:=List.getElem?_eq_some_iff.1 h
 rw [List.countP_set hi,he]
 simp

theorem Shift.start {H:Rec→Nat→Nat}{ts:Tab}(hok:TabOk H ts){h:Nat}{k:Rec}{idk:Int}{D:Nat}(hh:h<ts.length)(hk:Tab.at ts h k idk)(h1:1≤D)(hD:D<ts.length)(hs:ts[(h+D)%ts.length]?=some none)(hgo:∀ u,0<u→u<D→∃ r id,Tab.at ts ((h+u)%ts.length) r id) :
  Shift H ts h k D 0 1 (ts.set h none):=by
 have e0:(h+0)%ts.length=h:=Nat.mod_eq_of_lt (by omega)
 have hat:∀ i r id,Tab.at (ts.set h none) i r id↔i≠h∧Tab.at ts i r id:=by
  intro i r id
  unfold Tab.at
  rw [set_get hh]
  by_cases e:i=h
  ·simp [e]
  ·simp [e]
 refine⟨List.length_set,by omega,h1,hD,?_,fun u h0 hu=>?_,hs,hgo,?_,?_,?_,occ_set_none hk⟩
 ·rw [e0,set_get hh,if_pos rfl]
 ·rw [set_get hh,if_neg]
  intro e
  have:=mod_inj (a:=h) hu (show 0<ts.length by omega) (by rw [e,e0])
  omega
 ·intro i j r id id' a b
  exact hok.uniq i j r id id' ((hat _ _ _).1 a).2 ((hat _ _ _).1 b).2
 ·intro r id
  constructor
  ·rintro⟨i,hi⟩
   obtain⟨a,b⟩:=(hat _ _ _).1 hi
   refine⟨⟨i,b⟩,fun e=>a ?_⟩
   subst e
   exact hok.uniq i h r id idk b hk
  ·rintro⟨⟨i,hi⟩,hne⟩
   refine⟨i,(hat _ _ _).2 ⟨fun e=>hne ?_,hi⟩⟩
   subst e
   exact(at_inj hi hk).1
 ·intro v r id hv ha
  obtain⟨a,b⟩:=(hat _ _ _).1 ha
  obtain⟨d,hd,he,ho⟩:=hok.reach _ r id b
  refine⟨d,hd,he.symm,fun e hlt=>?_⟩
  obtain⟨r',id',hx⟩:=ho e hlt
  by_cases hc:(H r ts.length+e)%ts.length=h
  ·right
   refine⟨by rw [hc,e0],?_⟩
   rcases Nat.eq_zero_or_pos v with hz|hz
   ·subst hz;exact absurd e0 a
   ·exact hz
  ·left
   exact⟨r',id',(hat _ _ _).2 ⟨hc,hx⟩⟩

theorem Shift.short {H:Rec→Nat→Nat}{ts:Tab}{h:Nat}{k:Rec}{D s t:Nat}{T:Tab}(hS:Shift H ts h k D s t T){v u e d:Nat}{r:Rec}{id:Int}(hv:v<ts.length)(ha:Tab.at T ((h+v)%ts.length) r id)
  (hd:d<ts.length) (hda:(H r ts.length+d)%ts.length=(h+v)%ts.length) (hgo:∀ e,e<d→(∃ r' id',Tab.at T ((H r ts.length+e)%ts.length) r' id')∨((H r ts.length+e)%ts.length=(h+s)%ts.length∧t≤v))
  (he:e<d) (hu:u<D) (heu:(H r ts.length+e)%ts.length=(h+u)%ts.length):u+(d-e)=v∧v<D:=by
 have hDn:=hS.Dn
 have hst:=hS.st
 have htD:=hS.tD
 have hTD:T[(h+D)%ts.length]?=some none:=(hS.tail D (by omega) hDn).trans hS.stop
 have key:¬D≤u+(d-e):=by
  intro hle
  by_cases heq:u+(d-e)=D
  ·rcases path_idx (Nat.le_of_lt he) hd (by omega) hv heu hda with hp|hp
   ·unfold Tab.at at ha
    rw [← hp,heq,hTD] at ha
    cases ha
   ·omega
  ·have hx:(H r ts.length+(e+(D-u)))%ts.length=(h+D)%ts.length:=by
    rw [path_at heu,show u+(D-u)=D by omega]
   rcases hgo (e+(D-u)) (by omega) with⟨r',id',hy⟩|⟨hy,_⟩
   ·unfold Tab.at at hy
    rw [hx,hTD] at hy
    cases hy
   ·rw [hx] at hy
    have:=mod_inj (a:=h) hDn (show s<ts.length by omega) hy
    omega
 rcases path_idx (Nat.le_of_lt he) hd (by omega) hv heu hda with hp|hp
 ·exact⟨hp,by omega⟩
 ·omega

theorem Shift.done {H:Rec→Nat→Nat}{ts:Tab}{h:Nat}{k:Rec}{D s:Nat}{T:Tab}(hS:Shift H ts h k D s D T):TabOk H T:=by
 refine⟨hS.uniq,?_⟩
 intro i r id hi
 have hil:i<ts.length:=by rw [← hS.len];exact(List.getElem?_eq_some_iff.1 hi).1
 obtain⟨v,hv,rfl⟩:=idx_of (h:=h) hil
 obtain⟨d,hd,hda,hgo⟩:=hS.reach v r id hv hi
 rw [hS.len]
 refine⟨d,hd,hda.symm,fun e he=>?_⟩
 rcases hgo e he with hx|⟨hx,hle⟩
 ·exact hx
 ·have:=hS.short hv hi hd hda hgo he (u:=s) (by have:=hS.st;omega) hx
  omega

theorem Shift.stay {H:Rec→Nat→Nat}{ts:Tab}{h:Nat}{k:Rec}{D s t:Nat}{T:Tab}(hS:Shift H ts h k D s t T)(ht:t<D){r:Rec}{id:Int}(ha:Tab.at ts ((h+t)%ts.length) r id){d:Nat}(hd:d<ts.length)(hda:(H r ts.length+d)%ts.length=(h+t)%ts.length)(hlt:d<t-s) :
  Shift H ts h k D s (t+1) T:=by
 have hDn:=hS.Dn
 have hst:=hS.st
 refine⟨hS.len,by omega,by omega,hS.Dn,hS.hole,hS.tail,hS.stop,hS.go,hS.uniq,hS.mem,?_,hS.occ⟩
 intro v q iq hv hq
 obtain⟨d',hd',hda',hgo'⟩:=hS.reach v q iq hv hq
 refine⟨d',hd',hda',fun e he=>?_⟩
 rcases hgo' e he with hx|⟨hx,hle⟩
 ·exact .inl hx
 ·right
  refine⟨hx,?_⟩
  rcases Nat.lt_or_ge t v with hc|hc
  ·exact hc
  ·exfalso
   have hvt:v=t:=by omega
   subst hvt
   have hq2:Tab.at ts ((h+v)%ts.length) q iq:=by
    unfold Tab.at at hq ⊢
    rw [← hS.tail v hst hv]
    exact hq
   obtain⟨e1,e2⟩:=at_inj hq2 ha
   subst e1
   have hdd:d'=d:=mod_inj (a:=H q ts.length) hd' hd (by rw [hda',hda])
   subst hdd
   rcases path_idx (Nat.le_of_lt he) hd' (show s<ts.length by omega) hv hx hda' with hp|hp
   ·omega
   ·omega

theorem Shift.move {H:Rec→Nat→Nat}{ts:Tab}{h:Nat}{k:Rec}{D s t:Nat}{T:Tab}(hS:Shift H ts h k D s t T)(ht:t<D){r:Rec}{id:Int}(ha:Tab.at ts ((h+t)%ts.length) r id){d:Nat}(hd:d<ts.length)(hda:(H r ts.length+d)%ts.length=(h+t)%ts.length)(hlt:t-s≤d) :
  Shift H ts h k D t (t+1) ((T.set ((h+s)%ts.length) (some (r,id))).set ((h+t)%ts.length) none):=by
 have hDn:=hS.Dn
 have hst:=hS.st
 have hlen:=hS.len
 have hpos:0<ts.length:=by omega
 have hs2:(h+s)%ts.length<T.length:=by rw [hlen];exact Nat.mod_lt _ hpos
 have ht2:(h+t)%ts.length<T.length:=by rw [hlen];exact Nat.mod_lt _ hpos
 have hne:(h+s)%ts.length≠(h+t)%ts.length:=fun e=>by
  have:=mod_inj (a:=h) (show s<ts.length by omega) (show t<ts.length by omega) e
  omega
 have hT:Tab.at T ((h+t)%ts.length) r id:=by
  unfold Tab.at at ha ⊢
  rw [hS.tail t hst (by omega)]
  exact ha
 have hat:∀ i q iq,Tab.at ((T.set ((h+s)%ts.length) (some (r,id))).set ((h+t)%ts.length) none) i q iq↔(i=(h+s)%ts.length∧q=r∧iq=id)∨(i≠(h+s)%ts.length∧i≠(h+t)%ts.length∧Tab.at T i q iq):=by
  intro i q iq
  unfold Tab.at
  rw [set_get (by rw [List.length_set];exact ht2),set_get hs2]
  by_cases e1:i=(h+t)%ts.length
  ·rw [if_pos e1]
   constructor
   ·intro hh;cases hh
   ·rintro(⟨e2,_⟩|⟨_,e3,_⟩)
    ·exact absurd (e2.symm.trans e1) hne
    ·exact absurd e1 e3
  ·rw [if_neg e1]
   by_cases e2:i=(h+s)%ts.length
   ·rw [if_pos e2]
    constructor
    ·intro hh;cases hh;exact .inl ⟨e2,rfl,rfl⟩
    ·rintro(⟨_,rfl,rfl⟩|⟨e3,_⟩)
     ·rfl
     ·exact absurd e2 e3
   ·rw [if_neg e2]
    constructor
    ·intro hh;exact .inr ⟨e2,e1,hh⟩
    ·rintro(⟨e3,_⟩|⟨_,_,hh⟩)
     ·exact absurd e3 e2
     ·exact hh
 have hTs:∀ q iq,¬Tab.at T ((h+s)%ts.length) q iq:=fun q iq hh=>by
  unfold Tab.at at hh
  rw [hS.hole] at hh
  cases hh
 have hback:∀ i q iq,Tab.at ((T.set ((h+s)%ts.length) (some (r,id))).set ((h+t)%ts.length) none) i q iq→∃ j,Tab.at T j q iq∧(q=r→j=(h+t)%ts.length)∧(q≠r→j=i):=by
  intro i q iq hh
  rcases(hat _ _ _).1 hh with⟨_,rfl,rfl⟩|⟨a,b,c⟩
  ·exact⟨_,hT,fun _=>rfl,fun e=>absurd rfl e⟩
  ·refine⟨i,c,fun e=>?_,fun _=>rfl⟩
   subst e
   exact hS.uniq _ _ _ _ _ c hT
 refine⟨by rw [List.length_set,List.length_set];exact hlen,by omega,by omega,hDn,?_,fun u h0 hu=>?_,hS.stop,hS.go,?_,?_,?_,?_⟩
 ·rw [set_get (by rw [List.length_set];exact ht2),if_pos rfl]
 ·have n1:(h+u)%ts.length≠(h+t)%ts.length:=fun e=>by
   have:=mod_inj (a:=h) hu (show t<ts.length by omega) e
   omega
  have n2:(h+u)%ts.length≠(h+s)%ts.length:=fun e=>by
   have:=mod_inj (a:=h) hu (show s<ts.length by omega) e
   omega
  rw [set_get (by rw [List.length_set];exact ht2),if_neg n1,set_get hs2,if_neg n2]
  exact hS.tail u (by omega) hu
 ·intro i j q iq iq' a b
  rcases(hat _ _ _).1 a with⟨rfl,rfl,rfl⟩|⟨a1,a2,a3⟩<;>rcases(hat _ _ _).1 b with⟨rfl,e1,e2⟩|⟨b1,b2,b3⟩
  ·rfl
  ·exact absurd (hS.uniq _ _ _ _ _ b3 hT) b2
  ·subst e1;exact absurd (hS.uniq _ _ _ _ _ a3 hT) a2
  ·exact hS.uniq _ _ _ _ _ a3 b3
 ·intro q iq
  rw [← hS.mem q iq]
  constructor
  ·rintro⟨i,hi⟩
   rcases(hat _ _ _).1 hi with⟨_,rfl,rfl⟩|⟨_,_,c⟩
   ·exact⟨_,hT⟩
   ·exact⟨i,c⟩
  ·rintro⟨i,hi⟩
   by_cases e1:i=(h+t)%ts.length
   ·subst e1
    obtain⟨rfl,rfl⟩:=at_inj hi hT
    exact⟨_,(hat _ _ _).2 (.inl ⟨rfl,rfl,rfl⟩)⟩
   ·refine⟨i,(hat _ _ _).2 (.inr ⟨fun e=>?_,e1,hi⟩)⟩
    subst e
    exact hTs _ _ hi
 ·intro v q iq hv hq
  rcases(hat _ _ _).1 hq with⟨e1,rfl,rfl⟩|⟨a1,a2,a3⟩
  ·have hvs:v=s:=mod_inj (a:=h) hv (show s<ts.length by omega) e1
   subst hvs
   obtain⟨d',hd',hda',hgo'⟩:=hS.reach t q iq (by omega) hT
   have hdd:d'=d:=mod_inj (a:=H q ts.length) hd' hd (by rw [hda',hda])
   subst hdd
   have hend:(H q ts.length+(d'-(t-v)))%ts.length=(h+v)%ts.length:=by
    obtain⟨u,hu,hue⟩:=idx_of (h:=h) (i:=(H q ts.length+(d'-(t-v)))%ts.length) (n:=ts.length) (Nat.mod_lt _ hpos)
    rcases path_idx (H:=H q ts.length) (h:=h) (d:=d'-(t-v)) (D:=d') (by omega) hd' hu (show t<ts.length by omega) hue.symm hda' with hp|hp
    ·rw [← hue,show u=v by omega]
    ·omega
   refine⟨d'-(t-v),by omega,hend,fun e he=>?_⟩
   left
   rcases hgo' e (by omega) with⟨r',id',hx⟩|⟨hx,_⟩
   ·refine⟨r',id',(hat _ _ _).2 (.inr ⟨fun e2=>?_,fun e2=>?_,hx⟩)⟩
    ·rw [e2] at hx;exact hTs _ _ hx
    ·have:=mod_inj (a:=H q ts.length) (show e<ts.length by omega) hd' (by rw [e2,hda'])
     omega
   ·have:=mod_inj (a:=H q ts.length) (show e<ts.length by omega) (show d'-(t-v)<ts.length by omega) (by rw [hx,hend])
    omega
  ·obtain⟨d',hd',hda',hgo'⟩:=hS.reach v q iq hv a3
   refine⟨d',hd',hda',fun e he=>?_⟩
   by_cases c1:(H q ts.length+e)%ts.length=(h+t)%ts.length
   ·right
    have:=hS.short hv a3 hd' hda' hgo' he (u:=t) ht c1
    exact⟨c1,by omega⟩
   ·left
    rcases hgo' e he with⟨r',id',hx⟩|⟨hx,_⟩
    ·by_cases c2:(H q ts.length+e)%ts.length=(h+s)%ts.length
     ·exact⟨r,id,(hat _ _ _).2 (.inl ⟨c2,rfl,rfl⟩)⟩
     ·exact⟨r',id',(hat _ _ _).2 (.inr ⟨c2,c1,hx⟩)⟩
    ·exact⟨r,id,(hat _ _ _).2 (.inl ⟨hx,rfl,rfl⟩)⟩
 ·have h1:=occ_set_some (r:=r) (id:=id) hS.hole
  have h2:Tab.at (T.set ((h+s)%ts.length) (some (r,id))) ((h+t)%ts.length) r id:=by
   unfold Tab.at
   rw [set_get hs2,if_neg (fun e=>hne e.symm)]
   exact hT
  have h3:=occ_set_none h2
  have h4:=hS.occ
  omega

open Go.RowKit

theorem mask_any (x:Int)(p:Nat)(hp:p≤22):bits BinOp.and IntKind.i64 x (2 ^ p-1)=x%2 ^ p:=by
 have hb:IntKind.i64.bits=64:=rfl
 have hpp:(2:Nat) ^ p≤2 ^ 22:=Nat.pow_le_pow_right (by decide) hp
 have hpos:0<(2:Nat) ^ p:=Nat.two_pow_pos p
 have e22:(2:Nat) ^ 22=4194304:=rfl
 have e64:(2:Nat) ^ 64=18446744073709551616:=rfl
 have hc:((2:Int) ^ p-1)=((2 ^ p-1:Nat):Int):=by rw [Int.natCast_sub hpos];simp
 have hdvd:(2:Nat) ^ p ∣ 2 ^ 64:=Nat.pow_dvd_pow 2 (by omega)
 have hx0:0≤x%(2 ^ 64:Nat):=Int.emod_nonneg _ (by decide)
 have key:((x%(2 ^ 64:Nat)).toNat%2 ^ p:Nat)=(x%2 ^ p).toNat:=by
  have h1:(((x%(2 ^ 64:Nat)).toNat%2 ^ p:Nat):Int)=x%2 ^ p:=by
   rw [Int.natCast_emod,Int.toNat_of_nonneg hx0]
   have h2:((2 ^ p:Nat):Int) ∣ ((2 ^ 64:Nat):Int):=Int.natCast_dvd_natCast.2 hdvd
   rw [Int.emod_emod_of_dvd x h2]
   simp
  omega
 have hr0:0≤x%2 ^ p:=Int.emod_nonneg _ (by have:(2:Int) ^ p=((2 ^ p:Nat):Int):=(by simp);omega)
 have hr1:x%2 ^ p<4194304:=by
  have h3:(2:Int) ^ p=((2 ^ p:Nat):Int):=by simp
  have:=Int.emod_lt_of_pos x (show(0:Int)<2 ^ p by omega)
  omega
 rw [hc]
 simp only [bits,BitVec.toNat_and,BitVec.toNat_ofInt,hb,BitVec.ofInt_natCast,BitVec.toNat_ofNat]
 rw [Nat.mod_eq_of_lt (show 2 ^ p-1<2 ^ 64 by omega),Nat.and_two_pow_sub_one_eq_mod,key,IntKind.wrap_i64]
 omega

theorem dist_and (i h p len:Nat)(hp:len=2 ^ p)(h22:len≤4194304)(hh:h<len):bits BinOp.and IntKind.i64 ((i:Int)-(h:Int)) ((len:Int)-1)=(((i+len-h)%len:Nat):Int):=by
 have hp22:p≤22:=by
  rcases Nat.lt_or_ge 22 p with h|h
  ·have:=Nat.pow_lt_pow_right (a:=2) (by decide) h
   omega
  ·exact h
 have e:(len:Int)=2 ^ p:=by rw [hp];simp
 have h1:((i+len-h:Nat):Int)=((i:Int)-h)+len:=by omega
 rw [Int.natCast_emod,h1,Int.add_emod_right,e]
 exact mask_any _ p hp22

structure DropInv (w wr:World)(ib tb cap:Nat)(ts:Tab)(cnt:Int)(h:Nat)(k:Rec)(D s t:Nat)(T:Tab):Prop where
 heap:wr.heap[ib]?=some (.cells #[.slice (some ⟨tb,0,none⟩) ts.length cap,.int .i64 (cnt-1)] 265 (0,0))
 row:∃ q iq,wr.ownsRow 0 267 9 (.slice (some ⟨tb,0,none⟩) ts.length cap) ts.length ((T.set ((h+s)%ts.length) (some (q,iq))).flatMap slotVals)
 upd:Upd (fun x=>x=ib∨x=tb) w wr
 sh:Shift homeN ts h k D s t T

theorem DropInv.keeps {w wr W:World}{ib tb cap:Nat}{ts:Tab}{cnt:Int}{h:Nat}{k:Rec}{D s t:Nat}{T:Tab}(hI:DropInv w wr ib tb cap ts cnt h k D s t T)(hk:Keeps wr W):DropInv w W ib tb cap ts cnt h k D s t T:=by
 obtain⟨h1,⟨q,iq,h2⟩,h3,h4⟩:=hI
 exact⟨hk.heap h1,⟨q,iq,hk.owns h2⟩,h3.trans' (hk.upd _),h4⟩

theorem dist_home {home i n:Nat}(h1:home<n)(h2:i<n):(i+n-home)%n<n∧(home+(i+n-home)%n)%n=i:=by
 refine⟨Nat.mod_lt _ (by omega),?_⟩
 rw [Nat.add_mod_mod,show home+(i+n-home)=i+n by omega,Nat.add_mod_right,Nat.mod_eq_of_lt h2]

theorem dist_hole {h s t n:Nat}(hst:s≤t)(ht:t<n):((h+t)%n+n-(h+s)%n)%n=t-s:=by
 have hpos:0<n:=by omega
 have h1:=Nat.mod_lt (h+s) hpos
 have h2:=Nat.mod_lt (h+t) hpos
 obtain⟨d1,d2⟩:=dist_home h1 h2
 refine mod_inj (a:=(h+s)%n) d1 (by omega) ?_
 rw [d2,Nat.mod_add_mod,show h+s+(t-s)=h+t by omega]

theorem DropInv.look {w wr:World}{ib tb cap:Nat}{ts:Tab}{cnt:Int}{h:Nat}{k:Rec}{D s t:Nat}{T:Tab}(hI:DropInv w wr ib tb cap ts cnt h k D s t T){c:Option (Rec×Int)}(hc:ts[(h+t)%ts.length]?=some c)(ht:t<ts.length) :
  ∀ j,j<9→wr.cell? ⟨tb,(h+t)%ts.length*9+j,none⟩=(slotVals c)[j]?:=by
 intro j hj
 obtain⟨q,iq,hr⟩:=hI.row
 have hst:=hI.sh.st
 have hpos:0<ts.length:=by omega
 have h2:=Nat.mod_lt (h+t) hpos
 have h1:=Nat.mod_lt (h+s) hpos
 have hne:(h+t)%ts.length≠(h+s)%ts.length:=fun e=>by
  have:=mod_inj (a:=h) ht (show s<ts.length by omega) e
  omega
 have hg:(T.set ((h+s)%ts.length) (some (q,iq)))[(h+t)%ts.length]?=some c:=by
  rw [set_get (by rw [hI.sh.len];exact h1),if_neg hne,hI.sh.tail t hst ht]
  exact hc
 rw [hr.cellAt ((h+t)%ts.length*9+j) (by omega)]
 exact flat_get slotVals 9 slotVals_length _ _ j c hg hj

theorem DropInv.holes {w wr:World}{ib tb cap:Nat}{ts:Tab}{cnt:Int}{h:Nat}{k:Rec}{D s t:Nat}{T:Tab}(hI:DropInv w wr ib tb cap ts cnt h k D s t T) :
  ∃ q iq,∀ j,j<9→wr.cell? ⟨tb,(h+s)%ts.length*9+j,none⟩=(slotVals (some (q,iq)))[j]?:=by
 obtain⟨q,iq,hr⟩:=hI.row
 have hst:=hI.sh.st
 have htD:=hI.sh.tD
 have hDn:=hI.sh.Dn
 have hpos:0<ts.length:=by omega
 have h1:=Nat.mod_lt (h+s) hpos
 refine⟨q,iq,fun j hj=>?_⟩
 have hg:(T.set ((h+s)%ts.length) (some (q,iq)))[(h+s)%ts.length]?=some (some (q,iq)):=by
  rw [set_get (by rw [hI.sh.len];exact h1),if_pos rfl]
 rw [hr.cellAt ((h+s)%ts.length*9+j) (by omega)]
 exact flat_get slotVals 9 slotVals_length _ _ j _ hg hj

theorem DropInv.fz {w wr:World}{ib tb cap:Nat}{ts:Tab}{cnt:Int}{h:Nat}{k:Rec}{D s t:Nat}{T:Tab}(hI:DropInv w wr ib tb cap ts cnt h k D s t T)(j:Nat):wr.frozen? ⟨tb,j,none⟩=false:=by
 obtain⟨q,iq,hr⟩:=hI.row
 exact hr.frozenAt j

theorem set_same {T:Tab}{i:Nat}{c:Option (Rec×Int)}(h:T[i]?=some c):T.set i c=T:=by
 obtain⟨hi,he⟩:=List.getElem?_eq_some_iff.1 h
 rw [← he,List.set_getElem_self]

theorem DropInv.move {w wr:World}{ib tb cap:Nat}{ts:Tab}{cnt:Int}{h:Nat}{k:Rec}{D s t:Nat}{T:Tab}(hI:DropInv w wr ib tb cap ts cnt h k D s t T)(hne:tb≠ib)(ht:t<D){r:Rec}{id:Int}(ha:Tab.at ts ((h+t)%ts.length) r id)
  {d:Nat} (hd:d<ts.length) (hda:(homeN r ts.length+d)%ts.length=(h+t)%ts.length) (hlt:t-s≤d) :
  DropInv w (set9 wr tb ((h+s)%ts.length*9) (slotVals (some (r,id)))) ib tb cap ts cnt h k D t (t+1) ((T.set ((h+s)%ts.length) (some (r,id))).set ((h+t)%ts.length) none):=by
 obtain⟨q,iq,hr⟩:=hI.row
 have hst:=hI.sh.st
 have hDn:=hI.sh.Dn
 have hpos:0<ts.length:=by omega
 have h1:=Nat.mod_lt (h+s) hpos
 have h2:=Nat.mod_lt (h+t) hpos
 have u9:=set9_upd tb (slotVals (some (r,id))) ((h+s)%ts.length*9) wr
 have hT:Tab.at T ((h+t)%ts.length) r id:=by
  unfold Tab.at at ha ⊢
  rw [hI.sh.tail t hst (by omega)]
  exact ha
 have hnn:(h+t)%ts.length≠(h+s)%ts.length:=fun e=>by
  have:=mod_inj (a:=h) (show t<ts.length by omega) (show s<ts.length by omega) e
  omega
 have h9:=set9_owns slotVals slotVals_length (by rw [List.length_set];exact hI.sh.len) hr ((h+s)%ts.length) h1 (some (r,id))
 rw [List.set_set] at h9
 have he:((T.set ((h+s)%ts.length) (some (r,id))).set ((h+t)%ts.length) none).set ((h+t)%ts.length) (some (r,id))=T.set ((h+s)%ts.length) (some (r,id)):=by
  rw [List.set_set]
  refine set_same ?_
  rw [set_get (by rw [hI.sh.len];exact h1),if_neg hnn]
  exact hT
 refine⟨?_,⟨r,id,?_⟩,hI.upd.trans' (u9.mono (fun x _ e=>.inr e)),hI.sh.move ht ha hd hda hlt⟩
 ·exact(u9.block ib (lt_of_heap hI.heap) (fun e=>hne e.symm)).trans hI.heap
 ·rw [he]
  exact h9

theorem DropInv.stay {w wr:World}{ib tb cap:Nat}{ts:Tab}{cnt:Int}{h:Nat}{k:Rec}{D s t:Nat}{T:Tab}(hI:DropInv w wr ib tb cap ts cnt h k D s t T)(ht:t<D){r:Rec}{id:Int}(ha:Tab.at ts ((h+t)%ts.length) r id)
  {d:Nat} (hd:d<ts.length) (hda:(homeN r ts.length+d)%ts.length=(h+t)%ts.length) (hlt:d<t-s):DropInv w wr ib tb cap ts cnt h k D s (t+1) T:=
 ⟨hI.heap,hI.row,hI.upd,hI.sh.stay ht ha hd hda hlt⟩

theorem DropInv.done {w wr:World}{ib tb cap:Nat}{ts:Tab}{cnt:Int}{h:Nat}{k:Rec}{D s:Nat}{T:Tab}(hI:DropInv w wr ib tb cap ts cnt h k D s D T)(hne:tb≠ib) :
  (set9 wr tb ((h+s)%ts.length*9) (slotVals none)).heap[ib]?=some (.cells #[.slice (some ⟨tb,0,none⟩) T.length cap,.int .i64 (cnt-1)] 265 (0,0)) ∧
  (set9 wr tb ((h+s)%ts.length*9) (slotVals none)).ownsRow 0 267 9 (.slice (some ⟨tb,0,none⟩) T.length cap) T.length (T.flatMap slotVals) ∧
  Upd (fun x=>x=ib∨x=tb) w (set9 wr tb ((h+s)%ts.length*9) (slotVals none)):=by
 obtain⟨q,iq,hr⟩:=hI.row
 have hst:=hI.sh.st
 have hDn:=hI.sh.Dn
 have hpos:0<ts.length:=by omega
 have h1:=Nat.mod_lt (h+s) hpos
 have u9:=set9_upd tb (slotVals none) ((h+s)%ts.length*9) wr
 have h9:=set9_owns slotVals slotVals_length (by rw [List.length_set];exact hI.sh.len) hr ((h+s)%ts.length) h1 none
 rw [List.set_set,set_same hI.sh.hole] at h9
 rw [hI.sh.len]
 exact⟨(u9.block ib (lt_of_heap hI.heap) (fun e=>hne e.symm)).trans hI.heap,h9,hI.upd.trans' (u9.mono (fun x _ e=>.inr e))⟩

theorem DropInv.start {w wr:World}{ib tb cap:Nat}{ts:Tab}{cnt:Int}{h:Nat}{k:Rec}{idk:Int}{D:Nat}(hh:h<ts.length)(hk:Tab.at ts h k idk)(hS:Shift homeN ts h k D 0 1 (ts.set h none))
  (heap:wr.heap[ib]?=some (.cells #[.slice (some ⟨tb,0,none⟩) ts.length cap,.int .i64 (cnt-1)] 265 (0,0))) (row:wr.ownsRow 0 267 9 (.slice (some ⟨tb,0,none⟩) ts.length cap) ts.length (ts.flatMap slotVals)) (upd:Upd (fun x=>x=ib∨x=tb) w wr) :
  DropInv w wr ib tb cap ts cnt h k D 0 1 (ts.set h none):=by
 refine⟨heap,⟨k,idk,?_⟩,upd,hS⟩
 rw [show(h+0)%ts.length=h from Nat.mod_eq_of_lt hh,List.set_set,set_same hk]
 exact row

theorem idrop_low {w:World}{ib tb cap:Nat}{ts:Tab}{cnt:Int}(h:Nat)(k:Rec)(hk:k.ok)(idk:Int)(D p:Nat)(hib:w.heap[ib]?=some (.cells #[.slice (some ⟨tb,0,none⟩) ts.length cap,.int .i64 cnt] 265 (0,0)))
  (htb:w.ownsRow 0 267 9 (.slice (some ⟨tb,0,none⟩) ts.length cap) ts.length (ts.flatMap slotVals)) (h8:8≤ts.length) (h22:ts.length≤4194304) (hp:ts.length=2 ^ p) (hn0:1≤cnt) (hn1:cnt≤4194304) (hh:h<ts.length) (hat:Tab.at ts h k idk)
  (hfit:∀ r id,Tab.has ts r id→r.ok∧0≤id∧id≤4294967295) (hS:Shift homeN ts h k D 0 1 (ts.set h none))
  (hfind:∀ W,Keeps w W→Calls Tryz.prog 190 #[.pointer (some ⟨ib,0,none⟩),.agg #[.int .u8 k.form,.int .u8 k.top,.int .u8 k.bot,.int .u8 k.lo.tag,.int .u32 k.lo.to,.int .u8 k.hi.tag,.int .u32 k.hi.to]] W fun e w'=>e=.returned (.int .i64 (h:Int))∧Keeps W w') :
  Calls Tryz.prog 210 #[.pointer (some ⟨ib,0,none⟩),.agg #[.int .u8 k.form,.int .u8 k.top,.int .u8 k.bot,.int .u8 k.lo.tag,.int .u32 k.lo.to,.int .u8 k.hi.tag,.int .u32 k.hi.to]] w fun e w'=>e=.returned (.bool true)∧∃ s T wr,DropInv w wr ib tb cap ts cnt h k D s D T∧w'=set9 wr tb ((h+s)%ts.length*9) (slotVals none):=by
 have c0:w.cell? ⟨ib,0,none⟩=some (.slice (some ⟨tb,0,none⟩) ts.length cap):=by rw [cell_of_row w ib 0 _ _ _ hib];rfl
 have c1:w.cell? ⟨ib,1,none⟩=some (.int .i64 cnt):=by rw [cell_of_row w ib 1 _ _ _ hib];rfl
 have fi1:w.frozen? ⟨ib,1,none⟩=false:=frozen_of_row w ib 1 _ _ hib
 have hibl:=lt_of_heap hib
 obtain⟨cur,hcur⟩:=owns_type htb (k:=tb) rfl
 have htbl:=lt_of_heap hcur
 have hne:ib≠tb:=ne_of_type hib hcur (by decide)
 have hv8:=(htb.cellAt (h*9+8) (by omega)).trans (flat_get slotVals 9 slotVals_length ts h 8 _ hat (by omega))
 have cin:w.cell? ⟨tb,h*9+8,none⟩=some (.bool true):=hv8.trans rfl
 have hhi:(h:Int)<(ts.length:Int):=by omega
 have HI:=Lib.hid hib
 have HT:=Lib.hid htb
 have HAT:=Lib.hid hat
 have HSH:=Lib.hid hS
 have H:=Lib.hid hfind
 have HFIT:=Lib.hid hfit
 have HPP:=Lib.hid hp
 clear hcur hib htb hat hS hfind hv8 hfit hp
 go_enter Tryz.func210,Tryz.ntmps210
 go_wp2_with (first|(go_at_call 190;refine(H.out _ (by(exact kp))).mono ?_;rintro e w1 ⟨rfl,hb⟩;have hk1:Keeps w w1:=(((Keeps.refl _).alloc _).trans hb);have d0:=hk1.cell c0;have d1:=hk1.cell c1;have d2:=hk1.cell cin;have fd1:=(Below.frozen (p:=⟨ib,1,none⟩) hk1 hibl).trans fi1)|(go_at_call 238;refine(next_calls ib tb ts.length cap h p _ (by simp [go_sem,d0]) h8 h22 hh HPP.out).mono ?_;rintro e w2 ⟨rfl,rfl⟩)|fail)
 have hI0:DropInv w (w1.setCell ⟨ib,1,none⟩ (.int .i64 (cnt-1))) ib tb cap ts cnt h k D 0 1 (ts.set h none):=by
  have hu:Upd (fun x=>x=ib) w1 (w1.setCell ⟨ib,1,none⟩ (.int .i64 (cnt-1))):=Upd.setCell (F:=fun x=>x=ib) (p:=⟨ib,1,none⟩) (Upd.refl _ _) (Or.inl rfl) _
  refine DropInv.start hh HAT.out HSH.out ?_ ?_ ((hk1.upd _).trans' (hu.mono (fun x _ hx=>.inl hx)))
  ·exact heap_setCell_same _ ib 1 _ _ _ (hk1.heap HI.out)
  ·exact hu.owns (fun x hx e=>by simp [Value.ownBlock] at hx;omega) (hk1.owns HT.out)
 have HI0:=Lib.hid hI0
 clear hI0
 have hk1s:=hk1.size
 clear hb hk1 d0 d1 d2 fd1 c0 c1 cin fi1
 go_loopg [5,6] (D-1) (fun gk s5 s6 wr=>∃ (s t o i:Nat) (T:Tab),t+gk=D∧Hid (o=(h+s)%ts.length)∧Hid (i=(h+t)%ts.length)∧s5=.int .i64 (o:Int)∧s6=.int .i64 (i:Int)∧DropInv w wr ib tb cap ts cnt h k D s t T)
 case atStart=>
  have hD1:=HSH.out.tD
  exact⟨0,1,h,(h+1)%ts.length,_,by omega,Lib.hid (by rw [Nat.add_zero,Nat.mod_eq_of_lt hh]),Lib.hid rfl,rfl,by simp,HI0.out⟩
 case round=>
  obtain⟨s,t,o,i,T,htg,hoH,hiH,rfl,rfl,hInv⟩:=hrel
  have hi:=hiH.out
  have ho:=hoH.out
  have hst:=hInv.sh.st
  have htD:=hInv.sh.tD
  have hDn:=hInv.sh.Dn
  have hpos:0<ts.length:=by omega
  have hiN:i<ts.length:=by rw [hi];exact Nat.mod_lt _ hpos
  have hoN:o<ts.length:=by rw [ho];exact Nat.mod_lt _ hpos
  have hiI:(i:Int)<(ts.length:Int):=by omega
  have hoI:(o:Int)<(ts.length:Int):=by omega
  have hio:i≠o:=fun e=>by
   rw [hi,ho] at e
   have:=mod_inj (a:=h) (show t<ts.length by omega) (show s<ts.length by omega) e
   omega
  have cS:wr.cell? ⟨ib,0,none⟩=some (.slice (some ⟨tb,0,none⟩) ts.length cap):=by rw [cell_of_row wr ib 0 _ _ _ hInv.heap];rfl
  have hfz:=hInv.fz
  obtain⟨hq,hiq,hhv⟩:=hInv.holes
  rw [← ho] at hhv
  have hz0:wr.cell? ⟨tb,o*9,none⟩=some _:=(hhv 0 (by omega)).trans rfl
  have hz1:wr.cell? ⟨tb,o*9+1,none⟩=some _:=(hhv 1 (by omega)).trans rfl
  have hz2:wr.cell? ⟨tb,o*9+2,none⟩=some _:=(hhv 2 (by omega)).trans rfl
  have hz3:wr.cell? ⟨tb,o*9+3,none⟩=some _:=(hhv 3 (by omega)).trans rfl
  have hz4:wr.cell? ⟨tb,o*9+4,none⟩=some _:=(hhv 4 (by omega)).trans rfl
  have hz5:wr.cell? ⟨tb,o*9+5,none⟩=some _:=(hhv 5 (by omega)).trans rfl
  have hz6:wr.cell? ⟨tb,o*9+6,none⟩=some _:=(hhv 6 (by omega)).trans rfl
  have hz7:wr.cell? ⟨tb,o*9+7,none⟩=some _:=(hhv 7 (by omega)).trans rfl
  have hz8:wr.cell? ⟨tb,o*9+8,none⟩=some _:=(hhv 8 (by omega)).trans rfl
  have HINV:=Lib.hid hInv
  by_cases hlt:t<D
  ·obtain⟨q,iq,hq2⟩:=HSH.out.go t (by omega) hlt
   have hsv:=hInv.look hq2 (by omega)
   rw [← hi] at hsv
   have hqok:q.ok:=(HFIT.out q iq ⟨_,hq2⟩).1
   have hs0:wr.cell? ⟨tb,i*9,none⟩=some (.int .u8 q.form):=(hsv 0 (by omega)).trans rfl
   have hs1:wr.cell? ⟨tb,i*9+1,none⟩=some (.int .u8 q.top):=(hsv 1 (by omega)).trans rfl
   have hs2:wr.cell? ⟨tb,i*9+2,none⟩=some (.int .u8 q.bot):=(hsv 2 (by omega)).trans rfl
   have hs3:wr.cell? ⟨tb,i*9+3,none⟩=some (.int .u8 q.lo.tag):=(hsv 3 (by omega)).trans rfl
   have hs4:wr.cell? ⟨tb,i*9+4,none⟩=some (.int .u32 q.lo.to):=(hsv 4 (by omega)).trans rfl
   have hs5:wr.cell? ⟨tb,i*9+5,none⟩=some (.int .u8 q.hi.tag):=(hsv 5 (by omega)).trans rfl
   have hs6:wr.cell? ⟨tb,i*9+6,none⟩=some (.int .u32 q.hi.to):=(hsv 6 (by omega)).trans rfl
   have hs7:wr.cell? ⟨tb,i*9+7,none⟩=some (.int .u32 iq):=(hsv 7 (by omega)).trans rfl
   have hs8:wr.cell? ⟨tb,i*9+8,none⟩=some (.bool true):=(hsv 8 (by omega)).trans rfl
   obtain⟨hm,hhm⟩:∃ hm,hm=homeN q ts.length:=⟨_,rfl⟩
   have hmN:hm<ts.length:=by rw [hhm];exact Nat.mod_lt _ hpos
   have hhome:=fun(W:World) (hW:Keeps wr W)=>home_calls ib tb ts.length cap p q hqok W (hW.cell cS) h8 h22 HPP.out
   rw [← hhm] at hhome
   have HHOME:=Lib.hid hhome
   obtain⟨d,hd⟩:∃ d,d=(i+ts.length-hm)%ts.length:=⟨_,rfl⟩
   have e1:=dist_and i hm p ts.length HPP.out h22 hmN
   have e2:=dist_and i o p ts.length HPP.out h22 hoN
   have hdd:=dist_home hmN hiN
   have ehole:(i+ts.length-o)%ts.length=t-s:=by rw [hi,ho];exact dist_hole (by omega) (by omega)
   rw [ehole] at e2
   rw [← hd] at e1 hdd
   have HQ:=Lib.hid (show Tab.at ts ((h+t)%ts.length) q iq from hq2)
   have HDD:=Lib.hid (show d<ts.length∧(homeN q ts.length+d)%ts.length=(h+t)%ts.length from⟨hdd.1,by rw [← hhm,hdd.2,hi]⟩)
   have HIE:=Lib.hid hi
   have HOE:=Lib.hid ho
   clear hq2 hsv hhv hInv hhome hd hdd hi ho hhm ehole hfz
   have hfz:=HINV.out.fz
   have ho0:∀ a b:Nat,a<9→b<9→i*9+a≠o*9+b:=fun a b ha hb e=>hio (by omega)
   by_cases hcmp:d<t-s
   ·have hci:¬((t-s:Nat):Int)≤(d:Int):=by omega
    go_wp2_with (first|(go_at_call 237;refine(HHOME.out _ (by(exact kp))).mono ?_;rintro e w3 ⟨rfl,hk3⟩;have cS3:=hk3.cell cS)|(go_at_call 238;refine(next_calls ib tb ts.length cap i p _ cS3 h8 h22 hiN HPP.out).mono ?_;rintro e w4 ⟨rfl,rfl⟩)|fail)
    go_roundg (gk-1)
    case rel=>exact⟨s,t+1,o,(i+1)%ts.length,T,by omega,HOE,Lib.hid (by rw [HIE.out,Nat.mod_add_mod];rfl),rfl,by simp,(HINV.out.stay hlt HQ.out HDD.out.1 HDD.out.2 hcmp).keeps hk3⟩
    case measure=>omega
   ·have hci:((t-s:Nat):Int)≤(d:Int):=by omega
    go_wp2_with fail
    refine(HHOME.out _ (by(exact kp))).mono ?_
    rintro e w3 ⟨rfl,hk3⟩
    have cS3:=hk3.cell cS
    have ltb:=lt_of_cell hs0
    dsimp only at ltb
    have fz3:∀ j,w3.frozen? ⟨tb,j,none⟩=false:=fun j=>(Below.frozen (p:=⟨tb,j,none⟩) hk3 ltb).trans (hfz j)
    have g0:=hk3.cell hs0
    have x0:=hk3.cell hz0
    have g1:=hk3.cell hs1
    have x1:=hk3.cell hz1
    have g2:=hk3.cell hs2
    have x2:=hk3.cell hz2
    have g3:=hk3.cell hs3
    have x3:=hk3.cell hz3
    have g4:=hk3.cell hs4
    have x4:=hk3.cell hz4
    have g5:=hk3.cell hs5
    have x5:=hk3.cell hz5
    have g6:=hk3.cell hs6
    have x6:=hk3.cell hz6
    have g7:=hk3.cell hs7
    have x7:=hk3.cell hz7
    have g8:=hk3.cell hs8
    have x8:=hk3.cell hz8
    go_wp2_with fail
    go_region
    go_wp2_with (first|(go_at_call 238;refine(next_calls ib tb ts.length cap i p _ (by simp [go_sem,cS3,hne]) h8 h22 hiN HPP.out).mono ?_;rintro e w4 ⟨rfl,rfl⟩)|fail)
    go_roundg (gk-1)
    case rel=>
     refine⟨t,t+1,i,(i+1)%ts.length,(T.set o (some (q,iq))).set i none,by omega,HIE,Lib.hid (by rw [HIE.out,Nat.mod_add_mod];rfl),rfl,by simp,?_⟩
     have hmv:=(HINV.out.keeps hk3).move (fun e=>hne e.symm) hlt HQ.out HDD.out.1 HDD.out.2 (by omega)
     rw [← HOE.out,← HIE.out] at hmv
     exact hmv.keeps (Keeps.refl _).drew
    case measure=>omega
  ·obtain rfl:t=D:=by omega
   have hsv:=hInv.look HSH.out.stop (by omega)
   rw [← hi] at hsv
   have hs8:wr.cell? ⟨tb,i*9+8,none⟩=some (.bool false):=(hsv 8 (by omega)).trans rfl
   have HOE:=Lib.hid ho
   clear hsv hhv hInv hi ho
   go_wp2_with fail
   go_ret
   refine⟨rfl,s,T,wr,HINV.out,?_⟩
   rw [← HOE.out]
   rfl

theorem index_drop {F:Nat→Prop}{w:World}{ib:Nat}{ts:Tab}{n:Int}(h:IndexRep F w ib ts n)(hn:n=(occ ts:Int))(r:Rec)(hr:r.ok)(id:Int)(hh:Tab.has ts r id) :
  Calls Tryz.prog 210 #[.pointer (some ⟨ib,0,none⟩),.agg #[.int .u8 r.form,.int .u8 r.top,.int .u8 r.bot,.int .u8 r.lo.tag,.int .u32 r.lo.to,.int .u8 r.hi.tag,.int .u32 r.hi.to]] w fun e w'=>e=.returned (.bool true)∧Upd F w w' ∧
   ∃ ts',IndexRep F w' ib ts' (n-1)∧n-1=(occ ts':Int)∧∀ r' id',Tab.has ts' r' id'↔Tab.has ts r' id'∧r'≠r:=by
 obtain⟨D,hD⟩:=ends_of (H:=homeN) r h.room
 have hfnd:=hD.found h.ok hh
 have hl8:=h.least
 have hpos:0<ts.length:=by omega
 obtain⟨k,hkD⟩:∃ k:Nat,k=(homeN r ts.length+D)%ts.length:=⟨_,rfl⟩
 have hfind:∀ W,Keeps w W→Calls Tryz.prog 190 #[.pointer (some ⟨ib,0,none⟩),.agg #[.int .u8 r.form,.int .u8 r.top,.int .u8 r.bot,.int .u8 r.lo.tag,.int .u32 r.lo.to,.int .u8 r.hi.tag,.int .u32 r.hi.to]] W fun e w'=>e=.returned (.int .i64 (k:Int))∧Keeps W w':=fun W hW=>by
  rw [hkD]
  exact index_find (h.keeps hW) r hr D hD
 have hkl:k<ts.length:=by rw [hkD];exact Nat.mod_lt _ hpos
 rw [← hkD] at hfnd
 obtain⟨e,he⟩:=h.room
 obtain⟨D0,hD0,hm0⟩:=mod_reach (h:=k) (List.getElem?_eq_some_iff.1 he).1
 obtain⟨E,hEle,hE,hmin⟩:=least_below (p:=fun d=>ts[(k+d)%ts.length]?=some none) (n:=D0) (by rw [hm0];exact he)
 have hE1:1≤E:=by
  rcases Nat.eq_zero_or_pos E with hz|hz
  ·subst hz
   rw [Nat.add_zero,Nat.mod_eq_of_lt hkl] at hE
   rw [hE] at hfnd
   cases hfnd
  ·exact hz
 have hgo:∀ u,0<u→u<E→∃ r' id',Tab.at ts ((k+u)%ts.length) r' id':=fun u _ hu=>by
  have hx:=hmin u hu
  have hlt:=Nat.mod_lt (k+u) hpos
  cases hc:ts[(k+u)%ts.length] with
  | none=>exact(hx (by rw [List.getElem?_eq_getElem hlt,hc])).elim
  | some x=>
   obtain⟨r',id'⟩:=x
   exact⟨r',id',by unfold Tab.at;rw [List.getElem?_eq_getElem hlt,hc]⟩
 have hS:=Shift.start h.ok hkl hfnd hE1 (by omega) hE hgo
 have hocc:1≤occ ts:=by
  have:=occ_set_none (ts:=ts) hfnd
  omega
 obtain⟨⟨tb,cap,h1,h2,h3⟩,a1,⟨p,a2⟩,a3,a4,a5,a6,a7⟩:=h
 obtain⟨cur,hcur⟩:=owns_type h2 (k:=tb) rfl
 have hne:tb≠ib:=ne_of_type hcur h1 (by decide)
 refine(idrop_low k r hr id E p h1 h2 a3 a4 a2 (by omega) (by omega) hkl hfnd a7 hS hfind).mono ?_
 rintro e' w' ⟨rfl,s,T,wr,hI,rfl⟩
 obtain⟨q1,q2,q3⟩:=hI.done hne
 have hSd:=hI.sh
 have hlen:=hSd.len
 have hoc:=hSd.occ
 refine⟨rfl,q3.mono (fun x _ hx=>by rcases hx with rfl|rfl;exact a1;exact h3),T,⟨⟨tb,cap,q1,q2,h3⟩,a1,⟨p,by rw [hlen];exact a2⟩,by omega,by omega,by omega,hSd.done,fun r' id' hx=>a7 r' id' ((hSd.mem r' id').1 hx).1⟩,by omega,hSd.mem⟩

theorem afterGrow {A w3:World}{v u:Value}{b o:Nat}{O:Obj}(hg:(A.alloc O).grownBy w3 v.ownBlock)(hn:v.ownBlock≠some b)(hc:A.cell? ⟨b,o,none⟩=some u)(hf:A.frozen? ⟨b,o,none⟩=false) :
  w3.cell? ⟨b,o,none⟩=some u∧w3.frozen? ⟨b,o,none⟩=false:=by
 have hk:Keeps A (A.alloc O):=(Keeps.refl A).alloc O
 have hb:=lt_of_cell hc
 dsimp only at hb
 have hb2:b<(A.alloc O).heap.size:=by rw [World.size_alloc];omega
 exact⟨grown_cell hg hn (hk.cell hc),grown_frozen hg hb2 hn ((Below.frozen (p:=⟨b,o,none⟩) hk hb).trans hf)⟩

theorem adrop_low (ab cb:Nat)(id:Int)(r:Rec)(len cap:Nat)(fa:Option Addr)(nf fcap:Nat)(xs:List Value)(cnt room:Int)(w:World)(h0:2≤id)(h1:id≤4294967295)
  (c0:w.cell? ⟨ab,0,none⟩=some (.slice (some ⟨cb,0,none⟩) len cap)) (c1:w.cell? ⟨ab,1,none⟩=some (.slice fa nf fcap)) (c2:w.cell? ⟨ab,2,none⟩=some (.int .i64 cnt)) (hcnt:1≤cnt) (hcnt2:cnt≤1048576)
  (hf1:w.frozen? ⟨ab,1,none⟩=false) (hf2:w.frozen? ⟨ab,2,none⟩=false) (hlen:len≤1048576) (hidl:id-2<(len:Int))
  (hv:∀ j,j<9→w.cell? ⟨cb,(id-2).toNat*9+j,none⟩=(cellVals (some r))[j]?) (hfz:∀ j,w.frozen? ⟨cb,j,none⟩=false) (hne:cb≠ab)
  (hown:w.ownsRow 0 23 1 (.slice fa nf fcap) nf xs) (hnf:nf≤1048576) (hn1:Value.ownBlock (.slice fa nf fcap)≠some ab) (hn2:Value.ownBlock (.slice fa nf fcap)≠some cb) :
  Calls Tryz.prog 211 #[.pointer (some ⟨ab,0,none⟩),.int .u32 id] w fun e w'=>e=.returned (.bool true)∧∃ g fcap' w1 O,((set9 w cb ((id-2).toNat*9) (cellVals none)).alloc O).grownBy w1 (Value.ownBlock (.slice fa nf fcap))∧(Value.ownBlock (.slice fa nf fcap)=some g∨w.heap.size≤g) ∧
   w1.ownsRow 0 23 1 (.slice (some ⟨g,0,none⟩) (nf+1) fcap') (nf+1) (xs++[.int .u32 id])∧w'=(w1.setCell ⟨ab,1,none⟩ (.slice (some ⟨g,0,none⟩) (nf+1) fcap')).setCell ⟨ab,2,none⟩ (.int .i64 (cnt-1)):=by
 obtain⟨o,ho⟩:∃ o,o=(id-2).toNat*9:=⟨_,rfl⟩
 rw [← ho] at hv ⊢
 have s0:w.cell? ⟨cb,o,none⟩=some (.int .u8 r.form):=(hv 0 (by omega)).trans rfl
 have s1:w.cell? ⟨cb,o+1,none⟩=some (.int .u8 r.top):=(hv 1 (by omega)).trans rfl
 have s2:w.cell? ⟨cb,o+2,none⟩=some (.int .u8 r.bot):=(hv 2 (by omega)).trans rfl
 have s3:w.cell? ⟨cb,o+3,none⟩=some (.int .u8 r.lo.tag):=(hv 3 (by omega)).trans rfl
 have s4:w.cell? ⟨cb,o+4,none⟩=some (.int .u32 r.lo.to):=(hv 4 (by omega)).trans rfl
 have s5:w.cell? ⟨cb,o+5,none⟩=some (.int .u8 r.hi.tag):=(hv 5 (by omega)).trans rfl
 have s6:w.cell? ⟨cb,o+6,none⟩=some (.int .u32 r.hi.to):=(hv 6 (by omega)).trans rfl
 have s7:w.cell? ⟨cb,o+7,none⟩=some (.bool true):=(hv 7 (by omega)).trans rfl
 have s8:w.cell? ⟨cb,o+8,none⟩=some (.int .i64 0):=(hv 8 (by omega)).trans rfl
 have hat:=fun(W:World) (hW:Keeps w W)=>at_held ab cb id len cap W h0 h1 (hW.cell c0) hlen hidl (by rw [← ho];exact hW.cell s7)
 rw [← ho] at hat
 have HAT:=Lib.hid hat
 obtain⟨i0,hi,hz0,hz1,hz2⟩:=info_parts info_u32
 have hab:ab<w.heap.size:=lt_of_cell c2
 have hcb:cb<w.heap.size:=lt_of_cell s0
 have u9:=set9_upd cb (cellVals none) o w
 have ho9:=u9.owns (fun k hk e=>hn2 (by rw [hk,e])) hown
 have hne':ab≠cb:=hne.symm
 have kk1:=u9.cell (a:=⟨ab,1,none⟩) hne' c1
 have kk2:=u9.cell (a:=⟨ab,2,none⟩) hne' c2
 have ee1:=u9.frozen (a:=⟨ab,1,none⟩) hab hne' hf1
 have ee2:=u9.frozen (a:=⟨ab,2,none⟩) hab hne' hf2
 simp only [set9,cellVals,recVals,Rec.zero,List.cons_append,List.nil_append] at ho9 kk1 kk2 ee1 ee2
 have HO9:=Lib.hid ho9
 have K1:=Lib.hid kk1
 have K2:=Lib.hid kk2
 have E1:=Lib.hid ee1
 have E2:=Lib.hid ee2
 have N1:=Lib.hid hn1
 have HV:=Lib.hid ho
 clear hv hat u9 ho9 hown hn1 hn2 ho kk1 kk2 ee1 ee2
 go_enter Tryz.func211,Tryz.ntmps211
 go_wp2_with (first
  | (go_at_call 198;refine(HAT.out _ (by(exact kp))).mono ?_;rintro e w1 ⟨rfl,rfl⟩)
  | (at_builtin;refine wpList_append_fresh rfl _ _ 108 rfl 0 23 i0 (.int .u32 0) 1 4 Tryz.underlying108 hi hz0 hz1 hz2 rfl (by decide) (.slice fa nf fcap) nf xs rfl (HO9.out.alloc _) ⟨w.heap.size,0,none⟩ 1 1 [.int .u32 id] rfl rfl (cell_new _ _ _ _ (by simp)) (by simp [Value.oneCell']) (by unfold maxLen;omega) (by omega) (Nat.zero_le _) ?_;intro v' w3 hown3 hg3 hfr3;obtain⟨g,fcap',rfl⟩:=owns_shape hown3 (by omega);obtain⟨k1,e1⟩:=afterGrow hg3 N1.out K1.out E1.out;obtain⟨k2,e2⟩:=afterGrow hg3 N1.out K2.out E2.out)
  | fail)
 go_ret
 refine⟨rfl,g,fcap',w3,_,hg3,?_,hown3,rfl⟩
 rcases hfr3 g rfl with hh|hh
 ·exact .inl hh
 ·right
  simp only [World.size_alloc,World.size_setCell] at hh
  omega

theorem arena_drop {F:Nat→Prop}{w:World}{ab:Nat}{cs:List (Option Rec)}{gone:List Int}{cnt room:Int}(h:ArenaRep F w ab cs gone cnt room)(id:Int)(r:Rec)(hl:look cs id=some r)(hcnt:1≤cnt) :
  Calls Tryz.prog 211 #[.pointer (some ⟨ab,0,none⟩),.int .u32 id] w fun e w'=>e=.returned (.bool true)∧Upd F w w'∧ArenaRep (Grow F w w') w' ab (cs.set (id-2).toNat none) (gone++[id]) (cnt-1) room:=by
 have hcell:=h.cell
 obtain⟨q2,q3,q4⟩:=look_some hl
 obtain⟨⟨cv,fv,h1,h2,h3,h4,h5⟩,a2,a3,a4,a5,a6,a7,a8⟩:=h
 have c1:w.cell? ⟨ab,1,none⟩=some fv:=by rw [cell_of_row w ab 1 _ _ _ h1];rfl
 have c2:w.cell? ⟨ab,2,none⟩=some (.int .i64 cnt):=by rw [cell_of_row w ab 2 _ _ _ h1];rfl
 have hfz:∀ o,w.frozen? ⟨ab,o,none⟩=false:=fun o=>frozen_of_row w ab o _ _ h1
 have hab:=lt_of_heap h1
 obtain⟨ca,ccap,c0,hca⟩:=hcell
 obtain⟨cb,rfl,hne,hFcb,hv,hcz⟩:=hca (by omega)
 obtain⟨fa,fcap,rfl,_⟩:=owns_slice h3
 obtain⟨ca2,ccap2,rfl,hcs⟩:=owns_slice h2
 have c0':w.cell? ⟨ab,0,none⟩=some (.slice ca2 cs.length ccap2):=by rw [cell_of_row w ab 0 _ _ _ h1];rfl
 rw [c0] at c0'
 cases c0'
 obtain⟨cur,hcur⟩:=owns_type h2 (k:=cb) rfl
 have hn1:Value.ownBlock (.slice fa gone.length fcap)≠some ab:=by
  intro e
  obtain⟨cur2,hcur2⟩:=owns_type h3 e
  exact ne_of_type hcur2 h1 (by decide) rfl
 have hn2:Value.ownBlock (.slice fa gone.length fcap)≠some cb:=by
  intro e
  obtain⟨cur2,hcur2⟩:=owns_type h3 e
  exact ne_of_type hcur2 hcur (by decide) rfl
 have hil:(id-2).toNat<cs.length:=by omega
 refine(adrop_low ab cb id r cs.length ccap fa gone.length fcap (gone.map (Value.int .u32)) cnt room w q2 (by omega) c0 c1 c2 hcnt (by omega) (hfz 1) (hfz 2) a3 q3 (hv _ _ q4) hcz hne h3 (by omega) hn1 hn2).mono ?_
 rintro e w' ⟨rfl,g,fcap',w1,O,hgr,hfr,hown,rfl⟩
 have u9:=set9_upd cb (cellVals none) ((id-2).toNat*9) w
 have h9:=set9_owns cellVals cellVals_length rfl h2 (id-2).toNat hil none
 have hal:Keeps (set9 w cb ((id-2).toNat*9) (cellVals none)) ((set9 w cb ((id-2).toNat*9) (cellVals none)).alloc O):=(Keeps.refl _).alloc O
 have ua:Upd (fun k=>k=cb) w ((set9 w cb ((id-2).toNat*9) (cellVals none)).alloc O):=u9.alloc O
 have hupd:Upd F w w1:=(ua.mono (fun k _ e=>by rw [e];exact hFcb)).grown hgr (fun k hk=>.inl (h5 k hk))
 have h1a:w1.heap[ab]?=some (.cells #[.slice (some ⟨cb,0,none⟩) cs.length ccap,.slice fa gone.length fcap,.int .i64 cnt,.int .i64 room] 243 (0,0)):=
  (hgr.block ab (by have:=ua.size;omega) (fun e=>hn1 e.symm)).trans ((ua.block ab hab (fun e=>hne e.symm)).trans h1)
 have hga:g≠ab:=by
  obtain⟨cur2,hcur2⟩:=owns_type hown (k:=g) rfl
  exact ne_of_type hcur2 h1a (by decide)
 have hcv:w1.ownsRow 0 270 9 (.slice (some ⟨cb,0,none⟩) cs.length ccap) cs.length ((cs.set (id-2).toNat none).flatMap cellVals):=
  Upd.owns (F:=fun k=>Value.ownBlock (.slice fa gone.length fcap)=some k) ⟨hgr.os,hgr.tape,hgr.output,hgr.size,fun k hk hn=>hgr.block k hk (fun e=>hn e.symm)⟩ (fun k hk e=>by simp [Value.ownBlock] at hk;subst hk;exact hn2 e) (hal.owns h9)
 have u1:Upd (fun k=>k=ab) w1 (w1.setCell ⟨ab,1,none⟩ (.slice (some ⟨g,0,none⟩) (gone.length+1) fcap')):=Upd.setCell (F:=fun k=>k=ab) (p:=⟨ab,1,none⟩) (Upd.refl _ w1) (Or.inl rfl) _
 have u2:Upd (fun k=>k=ab) w1 ((w1.setCell ⟨ab,1,none⟩ (.slice (some ⟨g,0,none⟩) (gone.length+1) fcap')).setCell ⟨ab,2,none⟩ (.int .i64 (cnt-1))):=Upd.setCell (F:=fun k=>k=ab) (p:=⟨ab,2,none⟩) u1 (Or.inl rfl) _
 have hglt:g<w1.heap.size:=by
  obtain⟨cur2,hcur2⟩:=owns_type hown (k:=g) rfl
  exact lt_of_heap hcur2
 refine⟨rfl,hupd.trans' (u2.mono (fun k _ e=>by rw [e];exact a2)),⟨⟨.slice (some ⟨cb,0,none⟩) cs.length ccap,.slice (some ⟨g,0,none⟩) (gone.length+1) fcap',?_,?_,?_,?_,?_⟩,.inl a2,by rw [List.length_set];exact a3,?_,by omega,a6,?_,?_⟩⟩
 ·exact heap_setCell_same _ ab 2 _ _ _ (heap_setCell_same _ ab 1 _ _ _ h1a)
 ·rw [List.length_set]
  exact u2.owns (fun k hk e=>by simp [Value.ownBlock] at hk;omega) hcv
 ·rw [List.length_append,List.map_append]
  exact u2.owns (fun k hk e=>by simp [Value.ownBlock] at hk;omega) hown
 ·intro k hk
  simp [Value.ownBlock] at hk
  subst hk
  exact .inl hFcb
 ·intro k hk
  simp [Value.ownBlock] at hk
  subst hk
  rcases hfr with hh|hh
  ·exact .inl (h5 g hh)
  ·exact .inr ⟨hh,by have:=u2.size;omega⟩
 ·rw [List.length_set,List.length_append]
  simp
  omega
 ·intro x hx
  rw [List.length_set]
  rw [List.mem_append,List.mem_singleton] at hx
  rcases hx with hx|rfl
  ·exact a7 x hx
  ·exact⟨q2,q3⟩
 ·intro x hx
  rcases List.mem_or_eq_of_mem_set hx with hh|hh
  ·exact a8 x hh
  ·cases hh

structure SwRep (F:Nat→Prop)(W0 W:World)(sb ab ib:Nat)(M:St)(l:List Int)(ka ki:Nat):Prop where
 head:W.heap[sb]?=some (.cells #[.int .i64 M.n,.pointer (some ⟨ab,0,none⟩),.pointer (some ⟨ib,0,none⟩)] 189 (0,0))
 rep:∃ ts Fa Fi,ArenaRep Fa W ab (dropCs M.cs (l.take ka)) (M.gone++l.take ka) (M.len-ka) M.room∧IndexRep Fi W ib ts (M.len-ki)∧M.len-ki=(occ ts:Int) ∧
  (∀ r id,Tab.has ts r id↔look (dropCs M.cs (l.take ki)) id=some r)∧(∀ k,Fa k→F k∨(W0.heap.size≤k∧k<W.heap.size))∧(∀ k,Fi k→F k)∧(∀ k,Fa k→¬Fi k)∧¬Fa sb∧¬Fi sb
 upd:Upd F W0 W
 own:F sb
 lt:∀ k,F k→k<W0.heap.size

theorem StoreRep.sweep0 {F:Nat→Prop}{w:World}{sb:Nat}{M:St}(h:StoreRep F w sb M)(l:List Int):∃ ab ib,SwRep F w w sb ab ib M l 0 0:=by
 obtain⟨⟨ab,ib,ts,Fa,Fi,h1,h2,h3,h4,h5,h6,h7,h8,h9,h10⟩,a1,a2,a3⟩:=h
 refine⟨ab,ib,h1,⟨ts,Fa,Fi,?_,?_,?_,?_,fun k hk=>.inl (h6 k hk),h7,h8,h9,h10⟩,Upd.refl _ w,a1,a2⟩
 ·simpa [dropCs] using h2
 ·simpa using h3
 ·simpa using h4
 ·simpa [dropCs] using h5

theorem SwRep.keeps {F:Nat→Prop}{W0 W W':World}{sb ab ib:Nat}{M:St}{l:List Int}{ka ki:Nat}(h:SwRep F W0 W sb ab ib M l ka ki)(hk:Keeps W W'):SwRep F W0 W' sb ab ib M l ka ki:=by
 obtain⟨h1,⟨ts,Fa,Fi,q1,q2,q3,q4,q5,q6,q7,q8,q9⟩,h2,h3,h4⟩:=h
 exact⟨(hk.block sb (lt_of_heap h1)).trans h1,⟨ts,Fa,Fi,q1.keeps hk,q2.keeps hk,q3,q4,fun k hk'=>by
  rcases q5 k hk' with hh|hh
  ·exact .inl hh
  ·exact .inr ⟨hh.1,Nat.lt_of_lt_of_le hh.2 hk.size⟩,q6,q7,q8,q9⟩,h2.trans' (hk.upd _),h3,h4⟩

theorem SwRep.get {F:Nat→Prop}{W0 W:World}{sb ab ib:Nat}{M:St}{l:List Int}{k:Nat}{id:Int}{r:Rec}(h:SwRep F W0 W sb ab ib M l k k)(hid:id≤4294967295)(hl:look (dropCs M.cs (l.take k)) id=some r) :
  Calls Tryz.prog 145 #[.pointer (some ⟨ab,0,none⟩),.int .u32 id] W fun e w'=>e=.returned (.tuple #[.agg #[.int .u8 r.form,.int .u8 r.top,.int .u8 r.bot,.int .u8 r.lo.tag,.int .u32 r.lo.to,.int .u8 r.hi.tag,.int .u32 r.hi.to],.bool true])∧Keeps W w':=by
 obtain⟨h1,⟨ts,Fa,Fi,q1,_⟩,_⟩:=h
 exact arena_get_some q1 id hid r hl

theorem SwRep.idrop {F:Nat→Prop}{W0 W:World}{sb ab ib:Nat}{M:St}{l:List Int}{k:Nat}{id:Int}{r:Rec}(h:SwRep F W0 W sb ab ib M l k k)(hid:l[k]?=some id)(h2:2≤id)(hr:r.ok)(hl:look (dropCs M.cs (l.take k)) id=some r)
  (honce:∀ r' i j,look (dropCs M.cs (l.take k)) i=some r'→look (dropCs M.cs (l.take k)) j=some r'→i=j) :
  Calls Tryz.prog 210 #[.pointer (some ⟨ib,0,none⟩),.agg #[.int .u8 r.form,.int .u8 r.top,.int .u8 r.bot,.int .u8 r.lo.tag,.int .u32 r.lo.to,.int .u8 r.hi.tag,.int .u32 r.hi.to]] W fun e w'=>e=.returned (.bool true)∧SwRep F W0 w' sb ab ib M l k (k+1):=by
 obtain⟨h1,⟨ts,Fa,Fi,q1,q2,q3,q4,q5,q6,q7,q8,q9⟩,hu,ho,hlt⟩:=h
 refine(index_drop q2 q3 r hr id ((q4 r id).2 hl)).mono ?_
 rintro e w' ⟨rfl,hu2,ts',p1,p2,p3⟩
 have htk:l.take (k+1)=l.take k++[id]:=by rw [List.take_add_one,hid];rfl
 refine⟨rfl,(hu2.block sb (lt_of_heap h1) q9).trans h1,⟨ts',Fa,Fi,q1.keep hu2 q7,?_,?_,?_,fun j hj=>?_,q6,q7,q8,q9⟩,hu.trans' (hu2.mono (fun j _ hj=>q6 j hj)),ho,hlt⟩
 ·rw [show M.len-((k+1:Nat):Int)=M.len-(k:Int)-1 by omega]
  exact p1
 ·rw [show M.len-((k+1:Nat):Int)=M.len-(k:Int)-1 by omega]
  exact p2
 ·intro r' id'
  rw [p3,q4,htk,dropCs_step,look_set h2]
  constructor
  ·rintro⟨c1,c2⟩
   rw [if_neg (fun e=>by subst e;rw [hl] at c1;cases c1;exact c2 rfl)]
   exact c1
  ·intro c1
   by_cases e:id'=id
   ·rw [if_pos e] at c1;cases c1
   ·rw [if_neg e] at c1
    exact⟨c1,fun e2=>by subst e2;exact e (honce _ _ _ c1 hl)⟩
 ·rcases q5 j hj with hh|hh
  ·exact .inl hh
  ·exact .inr ⟨hh.1,Nat.lt_of_lt_of_le hh.2 hu2.size⟩

theorem SwRep.adrop {F:Nat→Prop}{W0 W:World}{sb ab ib:Nat}{M:St}{l:List Int}{k:Nat}{id:Int}{r:Rec}(h:SwRep F W0 W sb ab ib M l k (k+1))(hid:l[k]?=some id)(hl:look (dropCs M.cs (l.take k)) id=some r)(hlen:1≤M.len-k) :
  Calls Tryz.prog 211 #[.pointer (some ⟨ab,0,none⟩),.int .u32 id] W fun e w'=>e=.returned (.bool true)∧SwRep F W0 w' sb ab ib M l (k+1) (k+1):=by
 obtain⟨h1,⟨ts,Fa,Fi,q1,q2,q3,q4,q5,q6,q7,q8,q9⟩,hu,ho,hlt⟩:=h
 refine(arena_drop q1 id r hl hlen).mono ?_
 rintro e w' ⟨rfl,hu2,p1⟩
 have htk:l.take (k+1)=l.take k++[id]:=by rw [List.take_add_one,hid];rfl
 have hz:=hu.size
 have hz2:=hu2.size
 have hsb:=lt_of_heap h1
 refine⟨rfl,(hu2.block sb hsb q8).trans h1,⟨ts,Grow Fa W w',Fi,?_,q2.keep hu2 (fun j hj hj2=>q7 j hj2 hj),q3,q4,fun j hj=>?_,q6,fun j hj hj2=>?_,fun hj=>?_,q9⟩,?_,ho,hlt⟩
 ·rw [htk,dropCs_step,← List.append_assoc,show M.len-((k+1:Nat):Int)=M.len-(k:Int)-1 by omega]
  exact p1
 ·rcases hj with hj|⟨c1,c2⟩
  ·rcases q5 j hj with hh|hh
   ·exact .inl hh
   ·exact .inr ⟨hh.1,Nat.lt_of_lt_of_le hh.2 hz2⟩
  ·exact .inr ⟨by omega,c2⟩
 ·rcases hj with hj|⟨c1,c2⟩
  ·exact q7 j hj hj2
  ·have:=hlt j (q6 j hj2)
   omega
 ·rcases hj with hj|⟨c1,c2⟩
  ·exact q8 hj
  ·omega
 ·refine⟨by rw [hu2.os,hu.os],by rw [hu2.tape,hu.tape],by rw [hu2.output,hu.output],Nat.le_trans hz hz2,fun j hj hn=>?_⟩
  rw [hu2.block j (by omega) (fun hf=>?_),hu.block j hj hn]
  rcases q5 j hf with hh|hh
  ·exact hn hh
  ·omega

theorem SwRep.done {F:Nat→Prop}{w W0 W W':World}{sb ab ib d:Nat}{M:St}{roots:List Int}(hM:M.wf)(hk:Keeps w W0)(hF:∀ k,F k→k<w.heap.size)(h:SwRep F W0 W sb ab ib M (goneL M roots) (goneL M roots).length (goneL M roots).length)
  (hd:w.heap.size≤d) (hd2:d<W0.heap.size) (hu2:Upd (fun k=>k=d) W W') :
  Upd F w W'∧StoreRep (Grow F w W') W' sb (sweepSt M roots):=by
 obtain⟨h1,⟨ts,Fa,Fi,q1,q2,q3,q4,q5,q6,q7,q8,q9⟩,hu,ho,hlt⟩:=h
 rw [List.take_length] at q1 q4
 have hlen:=sweep_len M roots
 rw [← hlen] at q1 q2 q3
 have hz:=hk.size
 have hz1:=hu.size
 have hz2:=hu2.size
 have nFi:∀ j,Fi j→¬(j=d):=fun j hj e=>by have:=hF j (q6 j hj);omega
 have nFa:∀ j,Fa j→¬(j=d):=fun j hj e=>by
  rcases q5 j hj with hh|hh
  ·have:=hF j hh;omega
  ·omega
 refine⟨?_,⟨ab,ib,ts,Fa,Fi,(hu2.block sb (lt_of_heap h1) (fun e=>by have:=hF sb ho;omega)).trans h1,q1.keep hu2 nFa,q2.keep hu2 nFi,q3,q4,fun j hj=>?_,fun j hj=>.inl (q6 j hj),q7,q8,q9⟩,.inl ho,fun j hj=>?_,hM.sweep roots (by omega)⟩
 ·refine⟨by rw [hu2.os,hu.os,hk.os],by rw [hu2.tape,hu.tape,hk.tape],by rw [hu2.output,hu.output,hk.output],by omega,fun j hj hn=>?_⟩
  rw [hu2.block j (by omega) (by omega),hu.block j (by omega) hn,hk.block j hj]
 ·rcases q5 j hj with hh|hh
  ·exact .inl hh
  ·exact .inr ⟨by omega,by omega⟩
 ·rcases hj with hj|hj
  ·have:=hF j hj;omega
  ·exact hj.2

theorem goneS_eq {M:St}{roots S:List Int}(h:Visits M.cs roots S):(idsL M.cs).filter (fun x=>!decide (x∈S))=goneL M roots:=by
 unfold goneL
 refine List.filter_congr (fun x _=>?_)
 have:x∈S↔x∈reachL M.cs roots:=by rw [h.iff,mem_reachL]
 simp [this]

end Go.Proofs.YtpgcbmbnognieaaGreat
