/-
  Plainly: a text's nodes are put into a store, one behind the other; where there is room the edge stands in it.
-/
import Derived.Test.YtfpjogpjocedaaaGreatPSaveI
import Derived.Test.YtfpjogpjocedaaaGreatPSwapQ
namespace Go.Proofs.YtfpjogpjocedaaaGreat
set_option linter.unusedSimpArgs false
set_option linter.unusedVariables false
set_option maxHeartbeats 600000

def atR (ids:List Int) (e:Edge):Edge:=if 2 ≤ e.to then ⟨e.tag,(ids[(e.to - 2).toNat]?).getD 0⟩ else e

def atRec (ids:List Int) (r:Rec):Rec:=⟨r.form,r.top,r.bot,atR ids r.lo,atR ids r.hi⟩

def putL:List Rec → St → List Int → Int × St × List Int
 | [],M,ids=>(0,M,ids)
 | x :: xs,M,ids=>if M.findErr (atRec ids x)=0 then putL xs (M.findSt (atRec ids x)) (ids ++ [M.findId (atRec ids x)]) else (M.findErr (atRec ids x),M,ids)

def phi (S L:List Int) (z:Int):Int:=if z < 2 then z else (L[S.idxOf z]?).getD 0

theorem plainB_map {φ:Int → Int} {f l n:Int} {e:Edge} (h:φ e.to=0 ↔ e.to=0):plainB f (mapE φ e) l n=plainB f e l n:=by
 unfold plainB
 show (if _ then false else if f != 5 || (φ e.to == 0) then e.tag == 0 else _)=_
 have:(φ e.to == 0)=(e.to == 0):=by rw [Bool.eq_iff_iff,beq_iff_eq,beq_iff_eq];exact h
 rw [this]
 rfl

theorem Emb.badE {M M':St} {D:Int → Prop} {φ:Int → Int} (h:Emb M M' D φ) {r:Rec} (hlo:InD D r.lo.to) (hhi:InD D r.hi.to) (hb:M.bad r=false):M'.bad (mapR φ r)=false:=by
 unfold St.bad at hb ⊢
 simp only [Bool.or_eq_false_iff,Bool.not_eq_false'] at hb ⊢
 obtain ⟨⟨b1,b2⟩,b3⟩:=hb
 refine ⟨⟨?_,h.leadsE hlo b2⟩,h.leadsE hhi b3⟩
 rw [h.n]
 unfold rightB at b1 ⊢
 show (if _ then false else if !plainB r.form (mapE φ r.lo) (r.bot + 1) M.n || !plainB r.form (mapE φ r.hi) (r.bot + 1) M.n then false else if r.form == 2 || r.form == 4 then φ r.hi.to != 0 else !(r.lo.tag == r.hi.tag && φ r.lo.to == φ r.hi.to))=true
 rw [plainB_map (h.zero hlo),plainB_map (h.zero hhi)]
 have e1:(φ r.hi.to != 0)=(r.hi.to != 0):=by
  show (!(φ r.hi.to == 0))=(!(r.hi.to == 0))
  congr 1
  rw [Bool.eq_iff_iff,beq_iff_eq,beq_iff_eq]
  exact h.zero hhi
 have e2:(φ r.lo.to == φ r.hi.to)=(r.lo.to == r.hi.to):=by
  rw [Bool.eq_iff_iff,beq_iff_eq,beq_iff_eq]
  exact ⟨h.inj' hlo hhi,fun hh=>by rw [hh]⟩
 rw [e1,e2]
 exact b1

theorem find_zero2 {M:St} (h:M.wf) {r:Rec} (he:M.findErr r=0):look (M.findSt r).cs (M.findId r)=some r:=by
 cases hi:M.idOf r with
 | some id=>
  have hl:=(idOf_iff h.once r id).2 hi
  obtain ⟨a,b,c⟩:=find_old h hl
  rw [b,c]
  exact hl
 | none=>
  have hb:M.bad r=false:=by
   cases hb:M.bad r with
   | false=>rfl
   | true=>
    unfold St.findErr at he
    rw [hi] at he
    simp only [] at he
    rw [if_pos hb] at he
    cases he
  exact (find_zero h hb he).1

theorem Emb.ext {M M1 M2:St} {D:Int → Prop} {φ:Int → Int} (h:Emb M M1 D φ) (hE:Ext M1 M2):Emb M M2 D φ:=
 ⟨hE.n.trans h.n,h.low,h.inj,h.known,fun x r hx hl=>hE.sub _ _ (h.here x r hx hl),h.down⟩

theorem phi_low {S L:List Int} {z:Int} (h:z < 2):phi S L z=z:=if_pos h

theorem phi_take {S L L':List Int} {z:Int} (h:S.idxOf z < L.length):phi S (L ++ L') z=phi S L z:=by
 unfold phi
 split
 ·rfl
 ·rw [List.getElem?_append_left h]

theorem mem_take_succ {S:List Int} {i:Nat} {x z:Int} (hx:S[i]?=some x):z ∈ S.take (i + 1) ↔ z ∈ S.take i ∨ z=x:=by
 rw [List.take_add_one,hx]
 simp

theorem idx_get {S:List Int} (hn:S.Nodup) {i:Nat} {x:Int} (hx:S[i]?=some x):S.idxOf x=i:=by
 have hi:=(List.getElem?_eq_some_iff.1 hx).1
 have h1:S[S.idxOf x]?=some x:=by
  have hm:x ∈ S:=List.mem_of_getElem? hx
  rw [List.getElem?_eq_getElem (List.idxOf_lt_length_of_mem hm),List.getElem_idxOf]
 have h2:=List.idxOf_lt_length_of_mem (List.mem_of_getElem? hx)
 exact (List.getElem?_inj h2 hn).1 (h1.trans hx.symm)

theorem Emb.step {M M1:St} {S L:List Int} {i:Nat} {x:Int} {r:Rec} (h:M.wf) (h1:M1.wf) (hS:NumOk M S) (hL:L.length=i) (hE:Emb M M1 (fun z=>z ∈ S.take i) (phi S L)) (hx:S[i]?=some x) (hl:look M.cs x=some r) (he:M1.findErr (mapR (phi S L) r)=0) :
  Emb M (M1.findSt (mapR (phi S L) r)) (fun z=>z ∈ S.take (i + 1)) (phi S (L ++ [M1.findId (mapR (phi S L) r)])):=by
 have hX:=findSt_ext h1 (mapR (phi S L) r)
 have hE2:=hE.ext hX
 have hid:=find_zero2 h1 he
 obtain ⟨id,hide⟩:∃ id,id=M1.findId (mapR (phi S L) r):=⟨_,rfl⟩
 obtain ⟨M2,hM2⟩:∃ M2,M2=M1.findSt (mapR (phi S L) r):=⟨_,rfl⟩
 rw [← hide] at hid ⊢
 rw [← hM2] at hid hE2 hX ⊢
 obtain ⟨q1,q2⟩:=hS.early i x r hx hl
 have x2:=(look_some hl).1
 have hxi:=idx_get hS.once hx
 have px:phi S (L ++ [id]) x=id:=by
  unfold phi
  rw [if_neg (by omega),hxi,List.getElem?_append_right (by omega),hL]
  simp
 have pold:∀ z,z ∈ S.take i → phi S (L ++ [id]) z=phi S L z:=fun z hz=>phi_take (by rw [hL];exact idx_take hz)
 have pin:∀ z,InD (fun z=>z ∈ S.take i) z → phi S (L ++ [id]) z=phi S L z:=fun z hz=>by
  rcases hz with hz | hz
  ·rw [phi_low hz,phi_low hz]
  ·exact pold z hz
 have pmap:∀ q:Rec,InD (fun z=>z ∈ S.take i) q.lo.to → InD (fun z=>z ∈ S.take i) q.hi.to → mapR (phi S (L ++ [id])) q=mapR (phi S L) q:=fun q h1 h2=>by
  unfold mapR mapE
  rw [pin _ h1,pin _ h2]
 have hxn:x ∉ S.take i:=fun hm=>by have:=idx_take hm;omega
 refine ⟨hE2.n,fun z hz=>phi_low hz,?_,?_,?_,?_⟩
 ·have key:∀ z,z ∈ S.take i → phi S (L ++ [id]) z ≠ id:=by
   intro z hz hh
   rw [pold z hz] at hh
   cases hk:look M.cs z with
   | none=>exact hE.known z hz hk
   | some q=>
    have h3:=hE2.here z q hz hk
    rw [hh,hid] at h3
    obtain ⟨d1,d2⟩:=hE.down z q hz hk
    have e:r=q:=by
     have h4:=Option.some.inj h3
     unfold mapR mapE at h4
     cases r with | mk f t b lo hi=>cases q with | mk f' t' b' lo' hi'=>
     simp only [Rec.mk.injEq,Edge.mk.injEq] at h4
     obtain ⟨a1,a2,a3,⟨a4,a5⟩,a6,a7⟩:=h4
     cases lo
     cases hi
     cases lo'
     cases hi'
     simp only [] at a1 a2 a3 a4 a5 a6 a7
     have b1:=hE.inj' q1 d1 a5
     have b2:=hE.inj' q2 d2 a7
     simp only [] at b1 b2
     rw [a1,a2,a3,a4,b1,a6,b2]
    rw [← e] at hk
    have:=h.once r x z hl hk
    exact hxn (by rw [this];exact hz)
  intro y z hy hz hh
  rcases (mem_take_succ hx).1 hy with hy | hy
  ·rcases (mem_take_succ hx).1 hz with hz | hz
   ·rw [pold y hy,pold z hz] at hh
    exact hE.inj y z hy hz hh
   ·rw [hz,px] at hh
    exact absurd hh (key y hy)
  ·rcases (mem_take_succ hx).1 hz with hz | hz
   ·rw [hy,px] at hh
    exact absurd hh.symm (key z hz)
   ·rw [hy,hz]
 ·intro z hz
  rcases (mem_take_succ hx).1 hz with hz | hz
  ·exact hE.known z hz
  ·rw [hz,hl]
   simp
 ·intro z q hz hk
  rcases (mem_take_succ hx).1 hz with hz | hz
  ·obtain ⟨d1,d2⟩:=hE.down z q hz hk
   rw [pold z hz,pmap q d1 d2]
   exact hE2.here z q hz hk
  ·subst hz
   rw [hl] at hk
   cases hk
   rw [px,pmap r q1 q2]
   exact hid
 ·intro z q hz hk
  have up:∀ c,(c < 2 ∨ c ∈ S.take i) → (c < 2 ∨ c ∈ S.take (i + 1)):=fun c hc=>hc.imp (fun hh=>hh) (fun hh=>(mem_take_succ hx).2 (.inl hh))
  rcases (mem_take_succ hx).1 hz with hz | hz
  ·obtain ⟨d1,d2⟩:=hE.down z q hz hk
   exact ⟨up _ d1,up _ d2⟩
  ·subst hz
   rw [hl] at hk
   cases hk
   exact ⟨up _ q1,up _ q2⟩

theorem atRec_raw {S L:List Int} {i:Nat} {r:Rec} (hr:0 ≤ r.lo.to ∧ 0 ≤ r.hi.to):atRec L (rawRec S r)=mapR (phi S L) r:=by
 have key:∀ e:Edge,0 ≤ e.to → atR L (rawE S e)=mapE (phi S L) e:=by
  intro e he
  unfold atR rawE mapE phi
  by_cases h2:e.to < 2
  ·rw [if_pos h2,if_neg (by simp only [];omega),if_pos h2]
  ·rw [if_neg h2,if_pos (by simp only [];omega),if_neg h2]
   simp only []
   have:((S.idxOf e.to:Int) + 2 - 2).toNat=S.idxOf e.to:=by omega
   rw [this]
 unfold atRec rawRec mapR
 simp only []
 rw [key _ hr.1,key _ hr.2]

theorem atR_raw {S L:List Int} {e:Edge} (he:0 ≤ e.to):atR L (rawE S e)=mapE (phi S L) e:=by
 unfold atR rawE mapE phi
 by_cases h2:e.to < 2
 ·rw [if_pos h2,if_neg (by simp only [];omega),if_pos h2]
 ·rw [if_neg h2,if_pos (by simp only [];omega),if_neg h2]
  simp only []
  have:((S.idxOf e.to:Int) + 2 - 2).toNat=S.idxOf e.to:=by omega
  rw [this]

theorem put_emb {M:St} (h:M.wf) (hfa:FitA M) {S:List Int} (hS:NumOk M S):∀ (T:List Int) (i:Nat) (M1:St) (L:List Int),S.drop i=T → i ≤ S.length → L.length=i → M1.wf → Emb M M1 (fun z=>z ∈ S.take i) (phi S L) →
  ((putL (T.map (fun x=>rawRec S (grec (look M.cs x)))) M1 L).1=0 ∧ ∃ L2,(putL (T.map (fun x=>rawRec S (grec (look M.cs x)))) M1 L).2.2=L2 ∧ L2.length=S.length ∧ Emb M (putL (T.map (fun x=>rawRec S (grec (look M.cs x)))) M1 L).2.1 (fun z=>z ∈ S) (phi S L2)) ∨
  ((putL (T.map (fun x=>rawRec S (grec (look M.cs x)))) M1 L).1=6 ∧ M1.room < M1.len + T.length):=by
 intro T
 induction T with
 | nil=>
  intro i M1 L hd hi0 hL h1 hE
  left
  have hi:S.length ≤ i:=by
   have:=congrArg List.length hd
   simp at this
   omega
  refine ⟨rfl,L,rfl,by omega,?_⟩
  ·show Emb M M1 _ _
   have:S.take i=S:=List.take_of_length_le hi
   rw [this] at hE
   exact hE
 | cons x T ih=>
  intro i M1 L hd hi0 hL h1 hE
  have hx:S[i]?=some x:=by
   have:=congrArg (fun l=>l[0]?) hd
   simpa using this
  have hd2:S.drop (i + 1)=T:=by
   have:=congrArg (List.drop 1) hd
   simpa [List.drop_drop,Nat.add_comm] using this
  cases hl:look M.cs x with
  | none=>exact absurd hl (hS.known x (List.mem_of_getElem? hx))
  | some r=>
   have hr:=hfa x r hl
   have ea:atRec L (rawRec S r)=mapR (phi S L) r:=atRec_raw (i:=i) ⟨hr.lo.2.1,hr.hi.2.1⟩
   obtain ⟨q1,q2⟩:=hS.early i x r hx hl
   have hb:M1.bad (mapR (phi S L) r)=false:=hE.badE q1 q2 (h.good x r hl)
   have hp:putL ((x :: T).map (fun x=>rawRec S (grec (look M.cs x)))) M1 L=if M1.findErr (mapR (phi S L) r)=0 then putL (T.map (fun x=>rawRec S (grec (look M.cs x)))) (M1.findSt (mapR (phi S L) r)) (L ++ [M1.findId (mapR (phi S L) r)]) else (M1.findErr (mapR (phi S L) r),M1,L):=by
    rw [List.map_cons,hl,← ea]
    rfl
   rw [hp]
   by_cases he:M1.findErr (mapR (phi S L) r)=0
   ·rw [if_pos he]
    have hlen:=(findSt_len M1 (mapR (phi S L) r)).2
    have hroom:=findSt_room M1 (mapR (phi S L) r)
    rcases ih (i + 1) (M1.findSt (mapR (phi S L) r)) (L ++ [M1.findId (mapR (phi S L) r)]) hd2 (by have:=(List.getElem?_eq_some_iff.1 hx).1;omega) (by rw [List.length_append,hL];rfl) (h1.find _) (hE.step h h1 hS hL hx hl he) with ih | ih
    ·exact .inl ih
    ·right
     refine ⟨ih.1,?_⟩
     have:=ih.2
     rw [List.length_cons]
     push_cast
     omega
   ·rw [if_neg he]
    obtain ⟨f1,f2,f3⟩:=find_full hb he
    right
    refine ⟨f1,?_⟩
    rw [List.length_cons]
    push_cast
    omega

end Go.Proofs.YtfpjogpjocedaaaGreat
