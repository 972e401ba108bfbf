/-
  Plainly: what the code and the document have of the same bytes; what is loaded of good bytes.
-/
import Derived.Test.YtfpjogpjocedaaaGreatPLoadW
import Derived.Test.YtfpjogpjocedaaaGreatPTermsS
namespace Go.Proofs.YtfpjogpjocedaaaGreat
set_option linter.unusedSimpArgs false
set_option linter.unusedVariables false
set_option maxHeartbeats 600000

theorem GoodF.edge {bs:List Int} {T:Txt} {M1:St} {ids:List Int} (h:GoodF bs T M1 ids) (hl:bs.length ≤ 1048576) {M:St} (hM:M.wf) {M':St} {ids':List Int} (hp:putL T.l M []=(0,M',ids')) (hw:M'.wf) (hc:M'.cs.length ≤ 1048576):(atR ids' T.e).ok:=by
 have ho:=readB_ok h.good.read
 have ht:=ho.e.tag
 have ha:=ho.e.at'
 have hf:=ho.few
 unfold atR
 split
 ·refine ⟨⟨ht.1,by show T.e.tag ≤ 255;omega⟩,?_⟩
  show 0 ≤ (ids'[(T.e.to - 2).toNat]?).getD 0 ∧ (ids'[(T.e.to - 2).toNat]?).getD 0 ≤ 4294967295
  cases hg:ids'[(T.e.to - 2).toNat]? with
  | none=>exact ⟨by decide,by decide⟩
  | some y=>
   have q:=putL_ids T.l M [] hM (fun y hy=>by cases hy) (by rw [hp]) y (by rw [hp];exact List.mem_of_getElem? hg)
   rw [hp] at q
   have:=id_range hw (by omega) q
   exact ⟨by show 0 ≤ y;omega,this.2⟩
 ·exact ⟨⟨ht.1,by omega⟩,ha.1,by omega⟩

theorem numG_reach (cs:List (Option Rec)):∀ (k:Nat) (id:Int) (S:List Int) (x:Int),x ∈ numG cs k id S → x ∈ S ∨ Reaches cs [id] x:=by
 intro k
 induction k with
 | zero=>intro id S x h;exact .inl h
 | succ k ih=>
  intro id S x h
  unfold numG at h
  by_cases hm:id ∈ S
  ·rw [if_pos hm] at h
   exact .inl h
  ·rw [if_neg hm] at h
   cases hl:look cs id with
   | none=>rw [hl] at h;exact .inl h
   | some r=>
    rw [hl] at h
    simp only [] at h
    have hid:Reaches cs [id] id:=Reaches.root (by simp) (by rw [hl];simp)
    have hc:=Reaches.closed cs [id] id r hid hl
    rcases List.mem_append.1 h with h | h
    ·rcases ih _ _ x h with h | h
     ·rcases ih _ _ x h with h | h
      ·exact .inl h
      ·exact .inr (h.below (fun y hy hn=>by rw [List.mem_singleton] at hy;subst hy;exact hc.1 hn))
     ·exact .inr (h.below (fun y hy hn=>by rw [List.mem_singleton] at hy;subst hy;exact hc.2 hn))
    ·rw [List.mem_singleton] at h
     subst h
     exact .inr hid

theorem numM_reach {M:St} (h:M.wf) (hf:FitA M) (a x:Int):x ∈ numM M a [] ↔ Reaches M.cs [a] x:=by
 have hS:NumOk M (numM M a []):=(NumOk.nil M).next h hf a
 constructor
 ·intro hx
  rcases numG_reach M.cs 17 a [] x hx with h | h
  ·cases h
  ·exact h
 ·intro hx
  refine hx (fun y=>y ∈ numM M a []) (fun e he hn=>?_) (fun id r hid hl=>?_)
  ·rw [List.mem_singleton] at he
   subst he
   exact numM_here h hf (NumOk.nil M) hn
  ·obtain ⟨q1,q2⟩:=hS.shut id hid r hl
   refine ⟨fun hn=>?_,fun hn=>?_⟩
   ·rcases q1 with q | q
    ·exact absurd (look_low q) hn
    ·exact q
   ·rcases q2 with q | q
    ·exact absurd (look_low q) hn
    ·exact q

theorem numM_count {M:St} (h:M.wf) (hf:FitA M) (a:Int):(numM M a []).length=(reachL M.cs [a]).length:=by
 have hS:NumOk M (numM M a []):=(NumOk.nil M).next h hf a
 have hr:(reachL M.cs [a]).Nodup:=(reachL_rising M.cs [a]).imp (fun hlt e=>by omega)
 have h1:=nodup_len hS.once (fun x hx=>mem_reachL.2 ((numM_reach h hf a x).1 hx))
 have h2:=nodup_len hr (fun x hx=>(numM_reach h hf a x).2 (mem_reachL.1 hx))
 omega

theorem Emb.tabE' {M M':St} {D:Int → Prop} {φ:Int → Int} (h:Emb M M' D φ) {ps:List Int} {f:Int} {e:Edge} (he:InD D e.to):tabP M' ps f (mapE φ e)=tabP M ps f e:=by
 unfold tabP tv
 rw [h.n]
 exact List.map_congr_left (fun X _=>h.hSE _ _ _ he)

theorem rightK_k {M:St} {f:Int} {e:Edge} {l:Int} (h:kRight M f e l=true):rightK M f e l:=by
 intro hf
 unfold kRight at h
 rcases hf with rfl | rfl | rfl
 ·simpa using h
 ·simpa using h
 ·simpa using h

theorem Emb.stands {M M':St} {D:Int → Prop} {φ:Int → Int} (h:Emb M M' D φ) {f:Int} {ps:List Int} {has:Nat → Bool} {x:Edge} (hf:1 ≤ f ∧ f ≤ 5) (hx:Stands M f ps has x) (hin:InD D x.to) (hok:(mapE φ x).ok):Stands M' f ps has (mapE φ x):=
 ⟨hok,h.leadsE hin hx.lead,rightK_k (h.rightE hin (kRight_of hf hx.lead hx.right)),by rw [h.tabE' hin];exact hx.tab⟩

theorem Emb.many {M M':St} {S:List Int} {φ:Int → Int} (h:Emb M M' (fun z=>z ∈ S) φ) (hS:NumOk M S) (hs:M'.solid):(S.length:Int) ≤ M'.len:=by
 have hn:(S.map φ).Nodup:=by
  refine List.pairwise_map.2 (List.Pairwise.imp_of_mem ?_ hS.once)
  intro a b ha hb hne e
  exact hne (h.inj a b ha hb e)
 have:=ids_few M'.cs.length (S.map φ) hn (fun x hx=>by
  obtain ⟨y,hy,rfl⟩:=List.mem_map.1 hx
  cases hl:look M.cs y with
  | none=>exact absurd hl (hS.known y hy)
  | some r=>
   obtain ⟨a,c,_⟩:=look_some (h.here y r hy hl)
   exact ⟨a,c⟩)
 rw [List.length_map] at this
 have hm:M'.len=(M'.cs.length:Int):=by unfold St.len;rw [hs.1];simp
 omega

theorem put_saved {M:St} (h:M.wf) (hfa:FitA M) {f:Int} {ps:List Int} {x:Edge} (hx:x.ok) (hl:M.leads f x 0=true) {M':St} (hM:M'.wf) (hn:M'.n=M.n) :
  ((putL (rawT M ps f x).l M' []).1=0 ∧ ∃ φ,Emb M (putL (rawT M ps f x).l M' []).2.1 (fun z=>z ∈ numM M x.to []) φ ∧ InD (fun z=>z ∈ numM M x.to []) x.to ∧ atR (putL (rawT M ps f x).l M' []).2.2 (rawT M ps f x).e=mapE φ x) ∨
  ((putL (rawT M ps f x).l M' []).1=6 ∧ M'.room < M'.len + ((numM M x.to []).length:Int)):=by
 have hS:NumOk M (numM M x.to []):=(NumOk.nil M).next h hfa x.to
 have hE0:Emb M M' (fun z=>z ∈ (numM M x.to []).take 0) (phi (numM M x.to []) []):=
  ⟨hn,fun z hz=>phi_low hz,fun x y hx=>by simp at hx,fun x hx=>by simp at hx,fun x r hx=>by simp at hx,fun x r hx=>by simp at hx⟩
 have hin:InD (fun z=>z ∈ numM M x.to []) x.to:=by
  rcases (leads_iff.1 hl).2 with h2 | ⟨r,a,_⟩
  ·exact .inl h2
  ·exact .inr (numM_here h hfa (NumOk.nil M) (by rw [a];simp))
 rcases put_emb h hfa hS (numM M x.to []) 0 M' [] rfl (Nat.zero_le _) rfl hM hE0 with ⟨k1,L2,k2,k3,k4⟩ | ⟨k1,k2⟩
 ·refine .inl ⟨k1,_,k4,hin,?_⟩
  show atR (putL _ M' []).2.2 (rawE (numM M x.to []) x)=_
  have e:(putL (rawT M ps f x).l M' []).2.2=L2:=k2
  rw [e]
  exact atR_raw hx.2.1
 ·exact .inr ⟨k1,k2⟩

theorem save_good {M:St} (h:M.wf) (hfa:FitA M) (hfew:M.cs.length ≤ 1048576) {f:Int} {ps:List Int} {x:Edge} (hp:permB ps=true) (hn:M.n=(ps.length:Int)) (hf:1 ≤ f ∧ f ≤ 5) (hx:x.ok) (hr:kRight M f x 0=true):∃ M0 ids,GoodB (saveB M ps f x) (rawT M ps f x) M0 ids:=by
 have hl:=kRight_lead hr
 have hpr:=perm_range2 hp
 have hnm:=numM_few h hfa hfew x.to
 have hrd:=read_save h hfa (ps:=ps) hn hpr.2 hx hl hnm
 have hlen:(rawT M ps f x).l.length=(numM M x.to []).length:=List.length_map _
 have hv:((rawT M ps f x).vars:Int)=M.n:=by show ((M.n.toNat:Nat):Int)=M.n;have:=h.n0;omega
 have hff:((rawT M ps f x).form:Int)=f:=by show ((f.toNat:Nat):Int)=f;omega
 have hw0:(St.new ((rawT M ps f x).vars:Int) ((rawT M ps f x).l.length:Int)).wf:=St.new_wf (by omega) (by rw [hv];exact h.n16) (by omega) (by omega)
 rcases put_saved h hfa (f:=f) (ps:=ps) hx hl hw0 hv with ⟨k1,φ,k2,k3,k4⟩ | ⟨k1,k2⟩
 ·refine ⟨(putL (rawT M ps f x).l (St.new ((rawT M ps f x).vars:Int) ((rawT M ps f x).l.length:Int)) []).2.1,(putL (rawT M ps f x).l (St.new ((rawT M ps f x).vars:Int) ((rawT M ps f x).l.length:Int)) []).2.2,by omega,hrd,hp,by rw [← k1],?_,?_⟩
  ·rw [k4,hff]
   exact k2.rightE k3 hr
  ·rw [k4,hff]
   exact k2.saveE k3
 ·have e1:(St.new ((rawT M ps f x).vars:Int) ((rawT M ps f x).l.length:Int)).room=((rawT M ps f x).l.length:Int):=rfl
  rw [e1,new_len,hlen] at k2
  omega

theorem saved_loads {M:St} (h:M.wf) (hfa:FitA M) (hfew:M.cs.length ≤ 1048576) {f:Int} {ps:List Int} {has:Nat → Bool} {x:Edge} (hp:permB ps=true) (hn:M.n=(ps.length:Int)) (hf:1 ≤ f ∧ f ≤ 5) (hx:Stands M f ps has x) (hbl:(saveB M ps f x).length ≤ 1048576) {T:Txt} {M0:St} {ids:List Int} (hg:GoodF (saveB M ps f x) T M0 ids) :
  T.perm=ps ∧ (T.form:Int)=f ∧ ∀ (M':St),M'.wf → M'.n=(ps.length:Int) → ∀ er M2 ids2,putL T.l M' []=(er,M2,ids2) → M2.cs.length ≤ 1048576 →
   (er=0 ∧ Stands M2 f ps has (atR ids2 T.e) ∧ M'.len ≤ M2.len ∧ M2.len ≤ M'.len + ((numM M x.to []).length:Int) ∧ (M'.solid → M2.solid ∧ ((numM M x.to []).length:Int) ≤ M2.len) ∧ Ext M' M2 ∧ M2.wf ∧ M2.room=M'.room) ∨ (er=6 ∧ M'.room < M'.len + ((numM M x.to []).length:Int)):=by
 have hpr:=perm_range2 hp
 have hnm:=numM_few h hfa hfew x.to
 have hrd:=read_save h hfa (ps:=ps) hn hpr.2 hx.ok hx.lead hnm
 have hT:T=rawT M ps f x:=by
  have e:=hg.good.read
  rw [hrd] at e
  exact (Option.some.inj e).symm
 have hlen:(rawT M ps f x).l.length=(numM M x.to []).length:=List.length_map _
 refine ⟨by rw [hT];rfl,by rw [hT];show ((f.toNat:Nat):Int)=f;omega,?_⟩
 intro M' hM hn' er M2 ids2 hput hc2
 obtain ⟨w1,w2,w3⟩:=putL_wf T.l M' [] hM
 obtain ⟨l1,l2⟩:=putL_len T.l M' []
 have hsol:M'.solid → M2.solid:=fun hs=>by
  have:=putL_solid T.l M' [] hs
  rw [hput] at this
  exact this
 rw [hput] at w1 w2 w3 l1 l2
 have hsaved:=put_saved h hfa (f:=f) (ps:=ps) hx.ok hx.lead hM (hn'.trans hn.symm)
 rw [← hT,hput] at hsaved
 rw [hT,hlen] at l2
 rcases hsaved with ⟨k1,φ,k2,k3,k4⟩ | ⟨k1,k2⟩
 ·have k1':er=0:=k1
  subst k1'
  have hok:=hg.edge hbl hM hput w1 hc2
  have k4':atR ids2 T.e=mapE φ x:=k4
  refine .inl ⟨rfl,?_,l1,l2,fun hs=>⟨hsol hs,k2.many ((NumOk.nil M).next h hfa x.to) (hsol hs)⟩,w2,w1,w3⟩
  rw [k4'] at hok ⊢
  exact k2.stands hf hx k3 hok
 ·exact .inr ⟨k1,k2⟩

open Go Go.RowKit

set_option maxRecDepth 100000 in
theorem nodes17_calls (t:ByteArray) (w:World) (ht:t.size ≤ 1048576) :
  Calls Tryz.prog 27 #[.string t] w fun e w'=>∃ a cap,e=.returned (.slice a (partsTo t t.size).length cap) ∧ Keeps w w':=by
 have hP:=fun (W:World)=>parts_calls t W ht
 obtain ⟨c,hc⟩:∃ c,c=(partsTo t t.size).length:=⟨_,rfl⟩
 rw [← hc] at hP ⊢
 have HP:=Lib.hid hP
 clear hP hc
 go_enter Tryz.func27,Tryz.ntmps27
 go_wp2_with (first | (go_at_call 65;refine (HP.out _).mono ?_;rintro e w2 ⟨pa,pcap,rfl,hk2⟩) | fail)
 go_ret
 exact ⟨pa,pcap,rfl,by (exact kp)⟩

theorem stands_text6 {F:Nat → Prop} {w:World} {sb:Nat} {M:St} {f:Int} {ps:List Int} {has:Nat → Bool} {x:Edge} (hS:StoreRep F w sb M) (hf:1 ≤ f ∧ f ≤ 5) (hp:permB ps=true) (hn:M.n=(ps.length:Int)) (h6:ps.length ≤ 6) (hlen:M.len + 128 ≤ 1048576) (h:Stands M f ps has x):unfS f M (ps.length + 1) x=termK f ps.length (bldT has ps 0) 0:=by
 have hp6:2 ^ ps.length ≤ 2 ^ 6:=Nat.pow_le_pow_right (by decide) h6
 have e6:(2:Nat) ^ 6=64:=rfl
 rw [right_text hf (hS.fine f (by omega)) h.lead h.right h.ok.2.1 hS.fit0 hn (by omega),tabE_hasT hp hn h.tab]

theorem stands_nodes {F:Nat → Prop} {w:World} {sb:Nat} {M:St} {f:Int} {ps:List Int} {has:Nat → Bool} {x:Edge} (hS:StoreRep F w sb M) (hf:1 ≤ f ∧ f ≤ 5) (hp:permB ps=true) (hn:M.n=(ps.length:Int)) (h6:ps.length ≤ 6) (hlen:M.len + 128 ≤ 1048576) (h:Stands M f ps has x):(partsTo (termK f ps.length (bldT has ps 0) 0) (termK f ps.length (bldT has ps 0) 0).size).length=(numM M x.to []).length:=by
 rw [← stands_text6 hS hf hp hn h6 hlen h,parts_count (hS.fine f (by omega)) (ps.length + 1) x 0 ⟨h.lead,h.ok.2.1,by push_cast;omega⟩,numM_count hS.wf (fun id r hl=>hS.fit hl)]

theorem putB_two {n:Nat} (h:n ≤ 255):(putB n).length ≤ 2:=putB_len 1 n (by omega)

theorem edgeB_short {f:Int} {S:List Int} {e:Edge} (he:e.ok) (hS:S.length ≤ 100):(edgeB f S e).length ≤ 4:=by
 have h1:S.idxOf e.to ≤ S.length:=List.idxOf_le_length
 have a1:=putB_two (n:=if e.to < 2 then e.to.toNat else S.idxOf e.to + 2) (by split <;> omega)
 have ht:=he.1
 have a2:=putB_two (n:=e.tag.toNat) (by omega)
 have a3:(if f=5 ∧ 0 < e.to then putB e.tag.toNat else []).length ≤ 2:=by
  split
  ·exact a2
  ·exact Nat.zero_le _
 unfold edgeB
 rw [List.length_append]
 omega

theorem recB_short {f:Int} {S:List Int} {r:Rec} (hr:r.ok) (hS:S.length ≤ 100):(recB f S r).length ≤ 12:=by
 have t:=hr.top
 have b:=hr.bot
 have a1:=putB_two (n:=r.top.toNat) (by omega)
 have a2:=putB_two (n:=r.bot.toNat) (by omega)
 have a3:=edgeB_short (f:=f) hr.lo hS
 have a4:=edgeB_short (f:=f) hr.hi hS
 have a5:(if f=3 ∨ f=4 then putB r.bot.toNat else []).length ≤ 2:=by
  split
  ·exact a2
  ·exact Nat.zero_le _
 unfold recB
 simp only [List.length_append]
 omega

theorem saveB_short {M:St} (hw:M.wf) (hfa:FitA M) {ps:List Int} (hps:∀ x ∈ ps,0 ≤ x ∧ x ≤ 16) (hpl:ps.length ≤ 6) {f:Int} (hf:0 ≤ f ∧ f ≤ 255) {e:Edge} (he:e.ok) {k:Nat} (hk:(numM M e.to []).length ≤ k) (h31:k ≤ 64):(saveB M ps f e).length ≤ 30 + 12 * k:=by
 have n0:=hw.n0
 have n16:=hw.n16
 have a1:=putB_two (n:=M.n.toNat) (by omega)
 have a2:=putB_two (n:=f.toNat) (by omega)
 have a3:=flat_len (fun x:Int=>putB x.toNat) 2 ps (fun x hx=>putB_two (by have:=hps x hx;omega))
 have a4:=putB_two (n:=(numM M e.to []).length) (by omega)
 have a5:=flat_len (fun x:Int=>recB f (numM M e.to []) (grec (look M.cs x))) 12 (numM M e.to []) (fun x hx=>by
  refine recB_short ?_ (by omega)
  cases hl:look M.cs x with
  | none=>exact Rec.zero_ok
  | some r=>exact hfa x r hl)
 have a6:=edgeB_short (f:=f) (S:=numM M e.to []) he (by omega)
 have a7:12 * (numM M e.to []).length ≤ 12 * k:=Nat.mul_le_mul_left _ hk
 have a8:(recsB M f (numM M e.to [])).length ≤ 12 * (numM M e.to []).length:=a5
 unfold saveB
 simp only [List.length_append]
 omega

theorem numM_solid {M:St} (h:M.wf) (hf:FitA M) (hs:M.solid) (id:Int) {k:Nat} (hk:M.len ≤ (k:Int)):(numM M id []).length ≤ k:=by
 have hS:NumOk M (numM M id []):=(NumOk.nil M).next h hf id
 have h1:=ids_few M.cs.length (numM M id []) hS.once (fun x hx=>by
  cases hk:look M.cs x with
  | none=>exact absurd hk (hS.known x hx)
  | some r=>obtain ⟨a,c,_⟩:=look_some hk;exact ⟨a,c⟩)
 have hm:M.len=(M.cs.length:Int):=by unfold St.len;rw [hs.1];simp
 omega

end Go.Proofs.YtfpjogpjocedaaaGreat
