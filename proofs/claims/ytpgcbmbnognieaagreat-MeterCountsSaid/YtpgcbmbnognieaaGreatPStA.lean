/-
  The state of a store, plainly: cells by ids, ids that went, the variables, the room; and what the store's functions make of it.
-/
import Derived.Test.YtpgcbmbnognieaaGreatPArenaA
import Derived.Sort.AssemblyPlain
namespace Go.Proofs.YtpgcbmbnognieaaGreat
set_option linter.unusedSimpArgs false
set_option linter.unusedVariables false
set_option maxHeartbeats 600000

structure St where
 cs:List (Option Rec)
 gone:List Int
 n:Int
 room:Int

def St.len (M:St):Int:=(M.cs.length:Int) - (M.gone.length:Int)

def St.idOf (M:St) (r:Rec):Option Int:=(M.cs.findIdx? (fun o=>decide (o=some r))).map (fun i=>(i:Int) + 2)

def St.leads (M:St) (f:Int) (e:Edge) (l:Int):Bool:=
 plainB f e l M.n && (decide (e.to < 2) || match look M.cs e.to with
  | some r=>r.form == f && decide (l ≤ r.top) && decide (e.tag ≤ r.top)
  | none=>false)

def St.bad (M:St) (r:Rec):Bool:=!rightB r M.n || !M.leads r.form r.lo (r.bot + 1) || !M.leads r.form r.hi (r.bot + 1)

def St.findId (M:St) (r:Rec):Int:=
 match M.idOf r with
 | some id=>id
 | none=>if M.bad r then 0 else if M.room ≤ M.len then 0 else putId M.gone M.cs.length

def St.findErr (M:St) (r:Rec):Int:=
 match M.idOf r with
 | some _=>0
 | none=>if M.bad r then 1 else if M.room ≤ M.len then 6 else 0

def St.findSt (M:St) (r:Rec):St:=
 match M.idOf r with
 | some _=>M
 | none=>if M.bad r then M else if M.room ≤ M.len then M else { M with cs:=putCs M.cs M.gone r,gone:=M.gone.dropLast }

theorem look_get {cs:List (Option Rec)} {i:Nat} {r:Rec}:look cs ((i:Int) + 2)=some r ↔ cs[i]?=some (some r):=by
 have h2:¬ (i:Int) + 2 < 2:=by omega
 have h3:((i:Int) + 2 - 2).toNat=i:=by omega
 unfold look
 rw [if_neg h2,h3]
 cases h:cs[i]? with
 | none=>simp
 | some x=>simp

theorem idOf_look {M:St} {r:Rec} {id:Int} (h:M.idOf r=some id):look M.cs id=some r:=by
 unfold St.idOf at h
 cases hf:M.cs.findIdx? (fun o=>decide (o=some r)) with
 | none=>rw [hf] at h;simp at h
 | some i=>
  rw [hf] at h
  simp at h
  obtain ⟨hi,hp,_⟩:=List.findIdx?_eq_some_iff_getElem.1 hf
  subst h
  rw [look_get,List.getElem?_eq_getElem hi]
  simpa using hp

theorem idOf_none {M:St} {r:Rec} (h:M.idOf r=none) (id:Int):look M.cs id ≠ some r:=by
 intro hl
 obtain ⟨h2,h3,h4⟩:=look_some hl
 unfold St.idOf at h
 have hn:M.cs.findIdx? (fun o=>decide (o=some r))=none:=by
  cases hf:M.cs.findIdx? (fun o=>decide (o=some r)) with
  | none=>rfl
  | some i=>rw [hf] at h;simp at h
 rw [List.findIdx?_eq_none_iff] at hn
 have:=hn (some r) (List.mem_of_getElem? h4)
 simp at this

def St.once (M:St):Prop:=∀ r id id',look M.cs id=some r → look M.cs id'=some r → id=id'

theorem idOf_iff {M:St} (h:M.once) (r:Rec) (id:Int):look M.cs id=some r ↔ M.idOf r=some id:=by
 constructor
 ·intro hl
  cases hi:M.idOf r with
  | none=>exact (idOf_none hi id hl).elim
  | some id'=>rw [h r id id' hl (idOf_look hi)]
 ·exact idOf_look

theorem look_put {cs:List (Option Rec)} {gone:List Int} {r:Rec} (hg:∀ id ∈ gone,2 ≤ id ∧ id - 2 < (cs.length:Int) ∧ look cs id=none) (id:Int) (r':Rec) :
  look (putCs cs gone r) id=some r' ↔ (id=putId gone cs.length ∧ r'=r) ∨ look cs id=some r':=by
 unfold putCs putId
 cases hl:gone.getLast? with
 | none=>
  simp only []
  constructor
  ·intro h
   obtain ⟨h2,h3,h4⟩:=look_some h
   by_cases hc:(id - 2).toNat < cs.length
   ·right
    rw [List.getElem?_append_left hc] at h4
    have:=look_get.2 h4
    rwa [show (((id - 2).toNat:Nat):Int) + 2=id by omega] at this
   ·left
    rw [List.getElem?_append_right (by omega)] at h4
    simp at h3
    have e:(id - 2).toNat - cs.length=0:=by omega
    rw [e] at h4
    simp at h4
    exact ⟨by omega,h4.symm⟩
  ·rintro (⟨rfl,rfl⟩ | h)
   ·rw [look_get];simp
   ·obtain ⟨h2,h3,h4⟩:=look_some h
    have:=(look_get (cs:=cs ++ [some r]) (i:=(id - 2).toNat) (r:=r')).2 (by rw [List.getElem?_append_left (by omega)];exact h4)
    rwa [show (((id - 2).toNat:Nat):Int) + 2=id by omega] at this
 | some x=>
  simp only []
  obtain ⟨gs,hgs⟩:=List.getLast?_eq_some_iff.1 hl
  obtain ⟨x2,x3,x4⟩:=hg x (by rw [hgs];simp)
  have hxl:(x - 2).toNat < cs.length:=by omega
  constructor
  ·intro h
   obtain ⟨h2,h3,h4⟩:=look_some h
   rw [List.getElem?_set] at h4
   split at h4
   ·rename_i he
    left
    simp [hxl] at h4
    exact ⟨by omega,h4.symm⟩
   ·right
    have:=look_get.2 h4
    rwa [show (((id - 2).toNat:Nat):Int) + 2=id by omega] at this
  ·rintro (⟨rfl,rfl⟩ | h)
   ·have:=(look_get (cs:=cs.set (id - 2).toNat (some r')) (i:=(id - 2).toNat) (r:=r')).2 (by simp [hxl])
    rwa [show (((id - 2).toNat:Nat):Int) + 2=id by omega] at this
   ·obtain ⟨h2,h3,h4⟩:=look_some h
    have hne:(x - 2).toNat ≠ (id - 2).toNat:=by
     intro e
     have:x=id:=by omega
     subst this
     rw [x4] at h
     cases h
    have:=(look_get (cs:=cs.set (x - 2).toNat (some r)) (i:=(id - 2).toNat) (r:=r')).2 (by rw [List.getElem?_set,if_neg hne];exact h4)
    rwa [show (((id - 2).toNat:Nat):Int) + 2=id by omega] at this

structure St.wf (M:St):Prop where
 n0:0 ≤ M.n
 n16:M.n ≤ 16
 gone:∀ id ∈ M.gone,2 ≤ id ∧ id - 2 < (M.cs.length:Int) ∧ look M.cs id=none
 nodup:M.gone.Nodup
 good:∀ id r,look M.cs id=some r → M.bad r=false
 once:M.once
 len0:0 ≤ M.len
 room0:0 ≤ M.room
 room1:M.room ≤ 1048576
 full:M.len ≤ M.room

theorem leads_mono {M M':St} (hn:M'.n=M.n) (hl:∀ id r,look M.cs id=some r → look M'.cs id=some r) {f:Int} {e:Edge} {l:Int} (h:M.leads f e l=true):M'.leads f e l=true:=by
 unfold St.leads at h ⊢
 rw [hn]
 simp only [Bool.and_eq_true,Bool.or_eq_true] at h ⊢
 refine ⟨h.1,?_⟩
 rcases h.2 with h2 | h2
 ·exact .inl h2
 ·right
  cases hk:look M.cs e.to with
  | none=>rw [hk] at h2;simp at h2
  | some r=>rw [hl _ _ hk];rw [hk] at h2;exact h2

theorem bad_mono {M M':St} (hn:M'.n=M.n) (hl:∀ id r,look M.cs id=some r → look M'.cs id=some r) {r:Rec} (h:M.bad r=false):M'.bad r=false:=by
 unfold St.bad at h ⊢
 simp only [Bool.or_eq_false_iff,Bool.not_eq_false'] at h ⊢
 exact ⟨⟨by rw [hn];exact h.1.1,leads_mono hn hl h.1.2⟩,leads_mono hn hl h.2⟩

theorem putLen {cs:List (Option Rec)} {gone:List Int} {r:Rec}:((putCs cs gone r).length:Int) - (gone.dropLast.length:Int)=(cs.length:Int) - (gone.length:Int) + 1:=by
 unfold putCs
 cases hl:gone.getLast? with
 | none=>
  have:gone=[]:=by simpa using hl
  subst this
  simp
 | some x=>
  obtain ⟨gs,hgs⟩:=List.getLast?_eq_some_iff.1 hl
  subst hgs
  simp
  omega

theorem putId_range {cs:List (Option Rec)} {gone:List Int} (hg:∀ id ∈ gone,2 ≤ id ∧ id - 2 < (cs.length:Int) ∧ look cs id=none):2 ≤ putId gone cs.length ∧ putId gone cs.length ≤ (cs.length:Int) + 2 ∧ look cs (putId gone cs.length)=none:=by
 unfold putId
 cases hl:gone.getLast? with
 | none=>
  refine ⟨by simp only [];omega,by simp only [];omega,?_⟩
  simp only []
  cases hk:look cs ((cs.length:Int) + 2) with
  | none=>rfl
  | some r=>have:=look_some hk;omega
 | some x=>
  obtain ⟨gs,hgs⟩:=List.getLast?_eq_some_iff.1 hl
  obtain ⟨h1,h2,h3⟩:=hg x (by rw [hgs];simp)
  exact ⟨h1,by simp only [];omega,h3⟩

def St.add (M:St) (r:Rec):St:={ M with cs:=putCs M.cs M.gone r,gone:=M.gone.dropLast }

theorem St.wf.look_add {M:St} (h:M.wf) (r:Rec) (id:Int) (r':Rec):look (M.add r).cs id=some r' ↔ (id=putId M.gone M.cs.length ∧ r'=r) ∨ look M.cs id=some r':=look_put h.gone id r'

theorem St.len_add (M:St) (r:Rec):(M.add r).len=M.len + 1:=putLen

theorem St.wf.add {M:St} (h:M.wf) {r:Rec} (hno:M.idOf r=none) (hb:M.bad r=false) (hroom:M.len < M.room):(M.add r).wf:=by
 have hl:=h.look_add r
 have hsub:∀ id r',look M.cs id=some r' → look (M.add r).cs id=some r':=fun id r' hh=>(hl id r').2 (.inr hh)
 have hlen:=M.len_add r
 refine ⟨h.n0,h.n16,?_,?_,?_,?_,?_,h.room0,h.room1,?_⟩
 ·intro id hid
  replace hid:id ∈ M.gone.dropLast:=hid
  have hid':id ∈ M.gone:=(List.dropLast_sublist _).mem hid
  obtain ⟨g1,g2,g3⟩:=h.gone id hid'
  refine ⟨g1,?_,?_⟩
  ·have:=@set_len_le M.cs M.gone r
   show id - 2 < ((putCs M.cs M.gone r).length:Int)
   omega
  ·cases hk:look (M.add r).cs id with
   | none=>rfl
   | some r'=>
    exfalso
    rcases (hl id r').1 hk with ⟨e,_⟩ | e
    ·cases hg:M.gone.getLast? with
     | none=>
      have:M.gone=[]:=by simpa using hg
      rw [this] at hid'
      simp at hid'
     | some x=>
      have hx:putId M.gone M.cs.length=x:=by unfold putId;rw [hg]
      obtain ⟨gs,hgs⟩:=List.getLast?_eq_some_iff.1 hg
      have hnd:=h.nodup
      rw [hgs] at hnd hid
      simp at hid
      rw [List.nodup_append] at hnd
      exact hnd.2.2 id hid x (by simp) (e.trans hx)
    ·rw [g3] at e
     cases e
 ·exact List.Nodup.sublist (List.dropLast_sublist _) h.nodup
 ·intro id r' hk
  rcases (hl id r').1 hk with ⟨_,rfl⟩ | hk
  ·exact bad_mono (M:=M) (M':=M.add r') rfl hsub hb
  ·exact bad_mono (M:=M) (M':=M.add r) rfl hsub (h.good id r' hk)
 ·intro r' id id' ha hb'
  rcases (hl id r').1 ha with ⟨e1,e3⟩ | ha2
  ·rcases (hl id' r').1 hb' with ⟨e2,_⟩ | hb2
   ·rw [e1,e2]
   ·rw [e3] at hb2;exact (idOf_none hno id' hb2).elim
  ·rcases (hl id' r').1 hb' with ⟨_,e3⟩ | hb2
   ·rw [e3] at ha2;exact (idOf_none hno id ha2).elim
   ·exact h.once r' id id' ha2 hb2
 ·have:=h.len0;omega
 ·show (M.add r).len ≤ M.room
  omega

theorem St.wf.find {M:St} (h:M.wf) (r:Rec):(M.findSt r).wf:=by
 unfold St.findSt
 cases hi:M.idOf r with
 | some id=>exact h
 | none=>
  simp only []
  split
  ·exact h
  ·split
   ·exact h
   ·exact h.add hi (by simpa using ‹¬ M.bad r=true›) (by omega)

open Go.Sort

def Closed (cs:List (Option Rec)) (S:Int → Prop):Prop:=
 ∀ id r,S id → look cs id=some r → (look cs r.lo.to ≠ none → S r.lo.to) ∧ (look cs r.hi.to ≠ none → S r.hi.to)

def Reaches (cs:List (Option Rec)) (roots:List Int) (id:Int):Prop:=
 ∀ S:Int → Prop,(∀ e ∈ roots,look cs e ≠ none → S e) → Closed cs S → S id

theorem Reaches.root {cs:List (Option Rec)} {roots:List Int} {id:Int} (h:id ∈ roots) (hl:look cs id ≠ none):Reaches cs roots id:=fun _ h1 _=>h1 id h hl

theorem Reaches.closed (cs:List (Option Rec)) (roots:List Int):Closed cs (Reaches cs roots):=
 fun id r h hl=>⟨fun h1 S hS hC=>((hC id r (h S hS hC) hl).1 h1),fun h1 S hS hC=>((hC id r (h S hS hC) hl).2 h1)⟩

theorem Reaches.some {cs:List (Option Rec)} {roots:List Int} {id:Int} (h:Reaches cs roots id):look cs id ≠ none:=
 h (fun x=>look cs x ≠ none) (fun _ _ h=>h) (fun _ _ _ _=>⟨fun h=>h,fun h=>h⟩)

theorem Reaches.mono {cs:List (Option Rec)} {a b:List Int} (h:∀ x ∈ a,x ∈ b) {id:Int} (hr:Reaches cs a id):Reaches cs b id:=
 fun S hS hC=>hr S (fun e he hl=>hS e (h e he) hl) hC

theorem Reaches.below {cs:List (Option Rec)} {a b:List Int} (h:∀ x ∈ a,look cs x ≠ none → Reaches cs b x) {id:Int} (hr:Reaches cs a id):Reaches cs b id:=
 fun S hS hC=>hr S (fun e he hl=>h e he hl S hS hC) hC

structure Visit (cs:List (Option Rec)) (e:Int) (S T:List Int):Prop where
 here:look cs e ≠ none → e ∈ S ++ T
 shut:∀ id ∈ T,∀ r,look cs id=some r → (look cs r.lo.to ≠ none → r.lo.to ∈ S ++ T) ∧ (look cs r.hi.to ≠ none → r.hi.to ∈ S ++ T)
 from':∀ id ∈ T,Reaches cs [e] id
 once:T.Nodup
 apart:∀ id ∈ T,id ∉ S

theorem Visit.none {cs:List (Option Rec)} {e:Int} {S:List Int} (h:look cs e=none):Visit cs e S []:=
 ⟨fun h1=>absurd h h1,by simp,by simp,by simp,by simp⟩

theorem Visit.met {cs:List (Option Rec)} {e:Int} {S:List Int} (h:e ∈ S):Visit cs e S []:=
 ⟨fun _=>by simpa using h,by simp,by simp,by simp,by simp⟩

theorem Visit.both {cs:List (Option Rec)} {e:Int} {r:Rec} {S T U:List Int} (hl:look cs e=some r) (hn:e ∉ S) (h1:Visit cs r.lo.to (S ++ [e]) T) (h2:Visit cs r.hi.to (S ++ [e] ++ T) U):Visit cs e S (e :: (T ++ U)):=by
 have ee:S ++ e :: (T ++ U)=S ++ [e] ++ T ++ U:=by simp
 have hre:Reaches cs [e] e:=Reaches.root (by simp) (by rw [hl];simp)
 refine ⟨fun _=>by simp,?_,?_,?_,?_⟩
 ·intro id hid r' hr'
  rw [ee]
  rcases List.mem_cons.1 hid with rfl | hid
  ·rw [hl] at hr'
   cases hr'
   exact ⟨fun h=>List.mem_append_left _ (h1.here h),fun h=>h2.here h⟩
  ·rcases List.mem_append.1 hid with hid | hid
   ·exact ⟨fun h=>List.mem_append_left _ ((h1.shut id hid r' hr').1 h),fun h=>List.mem_append_left _ ((h1.shut id hid r' hr').2 h)⟩
   ·exact h2.shut id hid r' hr'
 ·intro id hid
  rcases List.mem_cons.1 hid with rfl | hid
  ·exact hre
  ·rcases List.mem_append.1 hid with hid | hid
   ·exact (h1.from' id hid).below (fun x hx hxl=>by rw [List.mem_singleton] at hx;subst hx;exact (Reaches.closed cs [e] e r hre hl).1 hxl)
   ·exact (h2.from' id hid).below (fun x hx hxl=>by rw [List.mem_singleton] at hx;subst hx;exact (Reaches.closed cs [e] e r hre hl).2 hxl)
 ·refine List.nodup_cons.2 ⟨?_,List.nodup_append.2 ⟨h1.once,h2.once,?_⟩⟩
  ·intro hm
   rcases List.mem_append.1 hm with hm | hm
   ·exact h1.apart e hm (by simp)
   ·exact h2.apart e hm (by simp)
  ·intro a ha b hb hab
   subst hab
   exact h2.apart a hb (List.mem_append_right _ ha)
 ·intro id hid hs
  rcases List.mem_cons.1 hid with rfl | hid
  ·exact hn hs
  ·rcases List.mem_append.1 hid with hid | hid
   ·exact h1.apart id hid (by simp [hs])
   ·exact h2.apart id hid (by simp [hs])

structure Visits (cs:List (Option Rec)) (es:List Int) (S:List Int):Prop where
 here:∀ e ∈ es,look cs e ≠ none → e ∈ S
 shut:Closed cs (fun id=>id ∈ S)
 from':∀ id ∈ S,Reaches cs es id
 once:S.Nodup

theorem Visits.nil (cs:List (Option Rec)):Visits cs [] []:=⟨by simp,fun _ _ h=>by simp at h,by simp,by simp⟩

theorem Visits.step {cs:List (Option Rec)} {es S T:List Int} {e:Int} (h:Visits cs es S) (h1:Visit cs e S T):Visits cs (es ++ [e]) (S ++ T):=by
 refine ⟨?_,?_,?_,?_⟩
 ·intro x hx hl
  rcases List.mem_append.1 hx with hx | hx
  ·exact List.mem_append_left _ (h.here x hx hl)
  ·rw [List.mem_singleton] at hx;subst hx;exact h1.here hl
 ·intro id r hid hl
  rcases List.mem_append.1 hid with hid | hid
  ·exact ⟨fun hh=>List.mem_append_left _ ((h.shut id r hid hl).1 hh),fun hh=>List.mem_append_left _ ((h.shut id r hid hl).2 hh)⟩
  ·exact h1.shut id hid r hl
 ·intro id hid
  rcases List.mem_append.1 hid with hid | hid
  ·exact (h.from' id hid).mono (fun x hx=>List.mem_append_left _ hx)
  ·exact (h1.from' id hid).mono (fun x hx=>List.mem_append_right _ hx)
 ·refine List.nodup_append.2 ⟨h.once,h1.once,?_⟩
  intro a ha b hb hab
  subst hab
  exact h1.apart a hb ha

theorem Visits.iff {cs:List (Option Rec)} {es S:List Int} (h:Visits cs es S) (id:Int):id ∈ S ↔ Reaches cs es id:=
 ⟨h.from' id,fun hr=>hr (fun x=>x ∈ S) (fun e he hl=>h.here e he hl) h.shut⟩

noncomputable def reachL (cs:List (Option Rec)) (roots:List Int):List Int:=
 letI:=Classical.propDecidable
 ((List.range cs.length).map (fun i:Nat=>(i:Int) + 2)).filter (fun id=>decide (Reaches cs roots id))

theorem mem_reachL {cs:List (Option Rec)} {roots:List Int} {id:Int}:id ∈ reachL cs roots ↔ Reaches cs roots id:=by
 unfold reachL
 rw [List.mem_filter]
 simp only [decide_eq_true_eq]
 refine ⟨fun h=>h.2,fun h=>⟨?_,h⟩⟩
 cases hl:look cs id with
 | none=>exact absurd hl h.some
 | some r=>
  obtain ⟨h1,h2,_⟩:=look_some hl
  exact List.mem_map.2 ⟨(id - 2).toNat,List.mem_range.2 (by omega),by omega⟩

theorem reachL_rising (cs:List (Option Rec)) (roots:List Int):(reachL cs roots).Pairwise (· < ·):=by
 unfold reachL
 refine List.Pairwise.filter _ (List.pairwise_map.2 (List.Pairwise.imp (R:=(· < ·)) ?_ List.pairwise_lt_range))
 intro a b h
 omega

theorem rising_eq:∀ {a b:List Int},a.Pairwise (· < ·) → b.Pairwise (· < ·) → (∀ x,x ∈ a ↔ x ∈ b) → a=b
 | [],[],_,_,_=>rfl
 | [],y :: b,_,_,h=>by have:=(h y).2 (by simp);simp at this
 | x :: a,[],_,_,h=>by have:=(h x).1 (by simp);simp at this
 | x :: a,y :: b,ha,hb,h=>by
  obtain ⟨a1,a2⟩:=List.pairwise_cons.1 ha
  obtain ⟨b1,b2⟩:=List.pairwise_cons.1 hb
  have e:x=y:=by
   have h1:=(h x).1 (by simp)
   have h2:=(h y).2 (by simp)
   rcases List.mem_cons.1 h1 with h1 | h1
   ·exact h1
   ·rcases List.mem_cons.1 h2 with h2 | h2
    ·exact h2.symm
    ·have:=b1 x h1;have:=a1 y h2;omega
  subst e
  congr 1
  refine rising_eq a2 b2 fun z=>⟨fun hz=>?_,fun hz=>?_⟩
  ·rcases List.mem_cons.1 ((h z).1 (List.mem_cons_of_mem _ hz)) with e | hz'
   ·subst e;have:=a1 z hz;omega
   ·exact hz'
  ·rcases List.mem_cons.1 ((h z).2 (List.mem_cons_of_mem _ hz)) with e | hz'
   ·subst e;have:=b1 z hz;omega
   ·exact hz'

theorem sorted_reachL {cs:List (Option Rec)} {roots S:List Int} {d d':Array Int} (h:Visits cs roots S) (hd:d.toList.Perm S) (hp:PermIn 0 d.size d d') (hs:SortedIn ltInt 0 d.size d'):d'.toList=reachL cs roots:=by
 obtain ⟨p1,p2,p3⟩:=hp
 have e1:d.extract 0 d.size=d:=by simp
 have e2:d'.extract 0 d.size=d':=by rw [← p1];simp
 rw [e1,e2] at p3
 have p4:=p3.trans hd
 have hnd:d'.toList.Nodup:=p4.nodup_iff.2 h.once
 refine rising_eq ?_ (reachL_rising _ _) fun x=>?_
 ·rw [List.pairwise_iff_getElem]
  intro i j hi hj hij
  have h1:=hs i j (Nat.zero_le _) hij (by rw [← p1];simpa using hj)
  have hi':i < d'.size:=by simpa using hi
  have hj':j < d'.size:=by simpa using hj
  simp only [ltInt,getElem!_pos d' i hi',getElem!_pos d' j hj',decide_eq_false_iff_not] at h1
  have h2:d'[i] ≠ d'[j]:=fun e=>by
   have:=(List.getElem_inj (h₀:=hi) (h₁:=hj) hnd).1 (by simpa using e)
   omega
  simp only [Array.getElem_toList]
  omega
 ·rw [p4.mem_iff,h.iff,mem_reachL]

structure GoodRec (M:St) (r:Rec):Prop where
 f1:1 ≤ r.form
 f5:r.form ≤ 5
 tb:r.top ≤ r.bot
 bn:r.bot < M.n
 chain:r.top=r.bot ∨ chainedB r.form=true
 lo:M.leads r.form r.lo (r.bot + 1)=true
 hi:M.leads r.form r.hi (r.bot + 1)=true
 zero:r.form=2 ∨ r.form=4 → r.hi.to ≠ 0
 apart:r.form ≠ 2 → r.form ≠ 4 → r.lo ≠ r.hi

theorem good_of {M:St} {r:Rec} (h:M.bad r=false):GoodRec M r:=by
 unfold St.bad at h
 simp only [Bool.or_eq_false_iff,Bool.not_eq_false'] at h
 obtain ⟨⟨h1,h2⟩,h3⟩:=h
 unfold rightB at h1
 split at h1
 ·cases h1
 ·rename_i c1
  simp only [Bool.or_eq_true,Bool.and_eq_true,Bool.not_eq_true',decide_eq_true_eq,not_or,not_and,bne_iff_ne,ne_eq,Bool.not_eq_false] at c1
  obtain ⟨⟨⟨⟨c1,_⟩,c2⟩,c3⟩,c4⟩:=c1
  have c1:isFormB r.form=true:=by cases h:isFormB r.form <;> simp_all
  unfold isFormB at c1
  simp only [Bool.and_eq_true,decide_eq_true_eq] at c1
  split at h1
  ·cases h1
  ·refine ⟨by omega,by omega,by omega,by omega,?_,h2,h3,?_,?_⟩
   ·by_cases he:r.top=r.bot
    ·exact .inl he
    ·exact .inr (c4 he)
   ·intro hf
    have:(r.form == 2 || r.form == 4)=true:=by simpa using hf
    rw [if_pos this] at h1
    simpa using h1
   ·intro n2 n4 he
    have:¬ (r.form == 2 || r.form == 4)=true:=by simp [n2,n4]
    rw [if_neg this,he] at h1
    simp at h1

theorem St.wf.goodRec {M:St} (h:M.wf) {id:Int} {r:Rec} (hl:look M.cs id=some r):GoodRec M r:=good_of (h.good id r hl)

theorem leads_cases {M:St} {f:Int} {e:Edge} {l:Int} (h:M.leads f e l=true):plainB f e l M.n=true ∧ (e.to < 2 ∨ ∃ r,look M.cs e.to=some r ∧ r.form=f ∧ l ≤ r.top ∧ e.tag ≤ r.top):=by
 unfold St.leads at h
 simp only [Bool.and_eq_true,Bool.or_eq_true,decide_eq_true_eq] at h
 refine ⟨h.1,?_⟩
 rcases h.2 with h2 | h2
 ·exact .inl h2
 ·right
  cases hk:look M.cs e.to with
  | none=>rw [hk] at h2;cases h2
  | some r=>
   rw [hk] at h2
   simp only [Bool.and_eq_true,decide_eq_true_eq,beq_iff_eq] at h2
   exact ⟨r,rfl,h2.1.1,h2.1.2,h2.2⟩

theorem child_top {M:St} (h:M.wf) {id:Int} {r r':Rec} (hl:look M.cs id=some r) {e:Edge} (he:e=r.lo ∨ e=r.hi) (hc:look M.cs e.to=some r'):r.top < r'.top ∧ r'.form=r.form:=by
 have g:=h.goodRec hl
 have h2:=(look_some hc).1
 have hle:M.leads r.form e (r.bot + 1)=true:=by rcases he with rfl | rfl;exact g.lo;exact g.hi
 rcases (leads_cases hle).2 with h3 | ⟨x,hx,hf,ht,_⟩
 ·omega
 ·rw [hc] at hx
  cases hx
  have:=g.tb
  exact ⟨by omega,hf⟩

end Go.Proofs.YtpgcbmbnognieaaGreat
