/-
  What View does, over the state (printed by wip/mk_vstore.py).
-/
import Derived.Test.YtfpjogpjocedaaaGreatPOrderB
import Derived.Test.YtfpjogpjocedaaaGreatPTMakeA
import Derived.RegionTactic
import Derived.BigRegion
import Derived.IntWalk
namespace Go.Proofs.YtfpjogpjocedaaaGreat
set_option linter.unusedSimpArgs false
set_option linter.unusedVariables false
set_option maxHeartbeats 600000
open Go.RowKit

theorem RefRep.node {F:Nat → Prop} {w:World} {mb:Nat} {M:St} {L:List (Int × Rec)} (h:RefRep F w mb M L) {id:Int} {r:Rec} {D:Nat} (hD:L[D]?=some (id,r)) :
  ∃ lb cap,w.cell? ⟨mb,0,none⟩=some (.slice (some ⟨lb,0,none⟩) L.length cap) ∧ D < L.length ∧ L.length ≤ 1048576 ∧
   w.cell? ⟨lb,D * 8 + 1,none⟩=some (.int .u8 r.form) ∧ w.cell? ⟨lb,D * 8 + 2,none⟩=some (.int .u8 r.top) ∧ w.cell? ⟨lb,D * 8 + 3,none⟩=some (.int .u8 r.bot) ∧ w.cell? ⟨lb,D * 8 + 4,none⟩=some (.int .u8 r.lo.tag) ∧
   w.cell? ⟨lb,D * 8 + 5,none⟩=some (.int .u32 r.lo.to) ∧ w.cell? ⟨lb,D * 8 + 6,none⟩=some (.int .u8 r.hi.tag) ∧ w.cell? ⟨lb,D * 8 + 7,none⟩=some (.int .u32 r.hi.to):=by
 have hl:=(List.getElem?_eq_some_iff.1 hD).1
 obtain ⟨a,cap,c0,hc⟩:=h.cell
 obtain ⟨lb,rfl,_,hv⟩:=hc (by omega)
 have g:=fun j (hj:j < 8)=>hv D _ hD j hj
 exact ⟨lb,cap,c0,hl,h.le,(g 1 (by omega)).trans rfl,(g 2 (by omega)).trans rfl,(g 3 (by omega)).trans rfl,(g 4 (by omega)).trans rfl,(g 5 (by omega)).trans rfl,(g 6 (by omega)).trans rfl,(g 7 (by omega)).trans rfl⟩

theorem cbdd_found0 {F:Nat → Prop} {w:World} {sb:Nat} {M:St} (h:StoreRep F w sb M) (r:Rec) (hr:r.ok) :
  Calls Tryz.prog 159 #[.pointer (some ⟨sb,0,none⟩),.agg #[.int .u8 r.form,.int .u8 r.top,.int .u8 r.bot,.int .u8 r.lo.tag,.int .u32 r.lo.to,.int .u8 r.hi.tag,.int .u32 r.hi.to]] w fun e w'=>e=.returned (.tuple #[.agg #[.int .u8 (foundE M 0 r).tag,.int .u32 (foundE M 0 r).to],.int .u8 (M.findErr r)]) ∧ Upd F w w' ∧ StoreRep (Grow F w w') w' sb (M.findSt r):=by
 have hf:=fun (W:World) (hW:Keeps w W)=>store_find (h.keeps hW) r hr
 by_cases he:M.findErr r=0
 ·have e1:foundE M 0 r=⟨0,M.findId r⟩:=if_pos he
  rw [e1,he]
  rw [he] at hf
  refine (cfound_ok sb r (M.findId r) w h.pos h.lt (fun W W1=>StoreRep (Grow F W W1) W1 sb (M.findSt r)) hf).mono ?_
  rintro e w' ⟨rfl,W,W1,h1,h2,h3,h4⟩
  exact ⟨rfl,h3.after h.lt h1 h2 h4⟩
 ·have e1:foundE M 0 r=⟨0,0⟩:=if_neg he
  rw [e1]
  refine (cfound_bad sb r (M.findId r) (M.findErr r) he w h.pos h.lt (fun W W1=>StoreRep (Grow F W W1) W1 sb (M.findSt r)) hf).mono ?_
  rintro e w' ⟨rfl,W,W1,h1,h2,h3,h4⟩
  exact ⟨rfl,h3.after h.lt h1 h2 h4⟩

theorem czdd_found0 {F:Nat → Prop} {w:World} {sb:Nat} {M:St} (h:StoreRep F w sb M) (r:Rec) (hr:r.ok) :
  Calls Tryz.prog 160 #[.pointer (some ⟨sb,0,none⟩),.agg #[.int .u8 r.form,.int .u8 r.top,.int .u8 r.bot,.int .u8 r.lo.tag,.int .u32 r.lo.to,.int .u8 r.hi.tag,.int .u32 r.hi.to]] w fun e w'=>e=.returned (.tuple #[.agg #[.int .u8 (foundE M 0 r).tag,.int .u32 (foundE M 0 r).to],.int .u8 (M.findErr r)]) ∧ Upd F w w' ∧ StoreRep (Grow F w w') w' sb (M.findSt r):=by
 have hf:=fun (W:World) (hW:Keeps w W)=>store_find (h.keeps hW) r hr
 by_cases he:M.findErr r=0
 ·have e1:foundE M 0 r=⟨0,M.findId r⟩:=if_pos he
  rw [e1,he]
  rw [he] at hf
  refine (zfound_ok sb r (M.findId r) w h.pos h.lt (fun W W1=>StoreRep (Grow F W W1) W1 sb (M.findSt r)) hf).mono ?_
  rintro e w' ⟨rfl,W,W1,h1,h2,h3,h4⟩
  exact ⟨rfl,h3.after h.lt h1 h2 h4⟩
 ·have e1:foundE M 0 r=⟨0,0⟩:=if_neg he
  rw [e1]
  refine (zfound_bad sb r (M.findId r) (M.findErr r) he w h.pos h.lt (fun W W1=>StoreRep (Grow F W W1) W1 sb (M.findSt r)) hf).mono ?_
  rintro e w' ⟨rfl,W,W1,h1,h2,h3,h4⟩
  exact ⟨rfl,h3.after h.lt h1 h2 h4⟩

def putB (n:Nat):List Int:=if n < 128 then [(n:Int)] else ((n % 128 + 128:Nat):Int) :: putB (n / 128)
termination_by n
decreasing_by omega

theorem putB_low {n:Nat} (h:n < 128):putB n=[(n:Int)]:=by rw [putB,if_pos h]

theorem putB_more {n:Nat} (h:¬ n < 128):putB n=((n % 128 + 128:Nat):Int) :: putB (n / 128):=by rw [putB,if_neg h]

theorem putB_len:∀ (k n:Nat),n < 128 ^ (k + 1) → (putB n).length ≤ k + 1:=by
 intro k
 induction k with
 | zero=>intro n h;rw [putB_low (by omega)];exact Nat.le_refl _
 | succ k ih=>
  intro n h
  by_cases hn:n < 128
  ·rw [putB_low hn];show 1 ≤ _;omega
  ·rw [putB_more hn,List.length_cons]
   have:=ih (n / 128) (by rw [Nat.pow_succ] at h;exact Nat.div_lt_of_lt_mul (by rw [Nat.mul_comm];exact h))
   omega

theorem putB_len10 {n:Nat} (h:n < 2 ^ 64):(putB n).length ≤ 10:=putB_len 9 n (Nat.lt_of_lt_of_le h (by decide))

theorem putB_pos (n:Nat):1 ≤ (putB n).length:=by
 by_cases hn:n < 128
 ·rw [putB_low hn];exact Nat.le_refl _
 ·rw [putB_more hn,List.length_cons];omega

theorem putB_range:∀ (N n:Nat),n < N → ∀ x ∈ putB n,0 ≤ x ∧ x ≤ 255:=by
 intro N
 induction N with
 | zero=>intro n h;omega
 | succ N ih=>
  intro n h x hx
  by_cases hn:n < 128
  ·rw [putB_low hn,List.mem_singleton] at hx
   omega
  ·rw [putB_more hn,List.mem_cons] at hx
   rcases hx with rfl | hx
   ·omega
   ·exact ih (n / 128) (by omega) x hx

def byteVs (bs:List Int):List Value:=bs.map (Value.int .u8)

theorem byteVs_append (a b:List Int):byteVs (a ++ b)=byteVs a ++ byteVs b:=List.map_append

theorem byteVs_len (a:List Int):(byteVs a).length=a.length:=List.length_map _

theorem byteVs_one (a:List Int):∀ u ∈ byteVs a,u.oneCell'=true:=fun u hu=>by
 obtain ⟨x,_,rfl⟩:=List.mem_map.1 hu
 rfl

theorem wrap_byte (m:Nat):IntKind.u8.wrap (m:Int)=((m % 256:Nat):Int):=by
 have h:((m % 256:Nat):Int)=(m:Int) % 256:=by omega
 rw [h]
 unfold IntKind.wrap
 simp [IntKind.signed,IntKind.bits]

theorem or_byte (m:Nat):bits BinOp.or IntKind.u8 ((m % 256:Nat):Int) 128=((m % 128 + 128:Nat):Int):=by
 have key:∀ k:Fin 256,bits BinOp.or IntKind.u8 ((k.val:Nat):Int) 128=((k.val % 128 + 128:Nat):Int):=by decide +kernel
 have:=key ⟨m % 256,Nat.mod_lt _ (by decide)⟩
 rw [this]
 simp only
 have:m % 256 % 128=m % 128:=Nat.mod_mod_of_dvd _ (by decide)
 rw [this]

open Go

def lateB (ops:Array Oper) (n:Nat):Bool:=
 (List.range ops.size).all fun t=>decide (t ≤ n) || (List.range t).any fun j=>decide (n ≤ j) && Region.waitsFor .any ops t j

section
variable {P:Program} {ops:Array Oper} {w:World}

theorem none_late {n:Nat} {listed:Array Bool} (hs:Region.sinkB .any ops n=true) (hc:lateB ops n=true) (inv:HeadInv .any ops n listed) :
  ∀ (d i:Nat),n - i=d → i < n → listed.getD i true=false → ∀ t ∈ Region.ready .any ops listed,t < n:=by
 intro d
 induction d using Nat.strongRecOn with
 | _ d ih=>
  intro i hd hi hun t hr
  refine Classical.byContradiction fun hlt=>?_
  obtain ⟨_,o,ho,hall⟩:=mem_ready.1 hr
  have hts:t < ops.size:=(Array.getElem?_eq_some_iff.1 ho).1
  rcases Nat.lt_or_ge n t with hnt | hnt
  ·have h1:=List.all_eq_true.1 hc t (List.mem_range.2 hts)
   rw [Bool.or_eq_true] at h1
   rcases h1 with h1 | h1
   ·have:=of_decide_eq_true h1
    omega
   ·obtain ⟨j,hj,h2⟩:=List.any_eq_true.1 h1
    rw [Bool.and_eq_true] at h2
    obtain ⟨o',ho',e,he,hb,hon⟩:=Region.waitsFor_spec h2.2
    obtain rfl:o'=o:=Option.some.inj (ho'.symm.trans ho)
    have h3:=hall e he hb
    rw [hon,getD_both (inv.tail j (of_decide_eq_true h2.1) (by have:=List.mem_range.1 hj;omega))] at h3
    cases h3
  ·obtain rfl:t=n:=by omega
   obtain ⟨j,hj,h2⟩:=List.any_eq_true.1 (List.all_eq_true.1 hs i (List.mem_range.2 hi))
   rw [Bool.and_eq_true] at h2
   have hij:=of_decide_eq_true h2.1
   obtain ⟨o',ho',e,he,hb,hon⟩:=Region.waitsFor_spec h2.2
   have hjr:=List.mem_range.1 hj
   by_cases hjt:j=t
   ·subst hjt
    obtain rfl:o'=o:=Option.some.inj (ho'.symm.trans ho)
    have h3:=hall e he hb
    rw [hon,getD_both hun] at h3
    cases h3
   ·rcases hl:listed.getD j false with _ | _
    ·exact hlt (ih (t - j) (by omega) j rfl (by omega) (getD_in (by rw [inv.size];omega) hl) t hr)
    ·have h3:=inv.closed j o' ho' hl e he hb
     rw [hon,getD_both hun] at h3
     cases h3

theorem head_first {n i:Nat} {oi:Oper} {v:Value} {L:Array Bool → Act → Prop} (hi:ops[i]?=some oi) (hsel:Region.noSelect ops=true) (hs:Region.sinkB .any ops n=true) (hc:lateB ops n=true) (hin:i < n)
  (hend:∀ listed a,L listed a → ∀ j ∈ Region.ready .any ops listed,n ≤ j) :
  ∀ (f:Nat) (listed:Array Bool) (a:Act),HeadInv .any ops n listed →
   (∀ j oj,ops[j]?=some oj → j ≠ i → listed.getD j true=false → (∀ e ∈ oj.after,Region.binds .any e=true → e.on ≠ i) → oi.apart ops oj=true) →
   i ∈ Region.ready .any ops listed → YieldsAt P ops w oi v a →
   wpAnyL P .any ops w n L f (listed.setIfInBounds i true) (a.put oi.dst v) → wpAnyL P .any ops w n L (f + 1) listed a
 | f,listed,a,inv,hfree,hr,hy,H=>by
  have hun:=(mem_ready.1 hr).1
  refine ⟨fun h=>(by rw [h] at hr;cases hr),fun j hj=>?_⟩
  have hjn:=none_late hs hc inv _ i rfl hin hun j hj
  refine ⟨hjn,?_⟩
  by_cases hji:j=i
  ·subst hji
   exact hy.stOp hi H
  ·cases f with
   | zero=>
    have:=hend _ _ H j (ready_mono hj hji)
    omega
   | succ f=>
    obtain ⟨hjun,oj,hoj,hall⟩:=mem_ready.1 hj
    have hno:∀ e ∈ oj.after,Region.binds .any e=true → e.on ≠ i:=fun e he hb heq=>by
     have h1:=hall e he hb
     rw [heq,getD_both hun] at h1
     cases h1
    have h2:=stOp_put hoj (hfree j oj hoj hji hjun hno) (fun cs b=>Region.noSelect_spec hsel i oi cs b hi) (fun cs b=>Region.noSelect_spec hsel j oj cs b hoj) hy (H.2 j (ready_mono hj hji)).2
    refine stOp_mono (fun a' h3=>head_first hi hsel hs hc hin hend f (listed.setIfInBounds j true) a' (inv.set hj hjn) ?_ (ready_mono hr (Ne.symm hji)) h3.1 ?_) h2
    ·intro k ok hk hki hu hn'
     refine hfree k ok hk hki ?_ hn'
     by_cases hjk:j=k
     ·subst hjk
      exact hjun
     ·rwa [getD_set_ne true hjk] at hu
    ·rw [Array.setIfInBounds_comm _ _ hji]
     exact h3.2

def lexTo (ops:Array Oper) (n:Nat) (T:Array Bool):Nat → Nat → Array Bool → Bool
 | 0,_,listed=>decide (listed=T) && (Region.ready .any ops T).all (fun j=>decide (n ≤ j))
 | f + 1,k,listed=>(Region.ready .any ops listed).contains k && Region.free .any ops listed k && lexTo ops n T f (k + 1) (listed.setIfInBounds k true)

theorem head_lex {n:Nat} {T:Array Bool} {G:Act → Prop} (hsel:Region.noSelect ops=true) (hs:Region.sinkB .any ops n=true) (hc:lateB ops n=true) :
  ∀ (l:List Oper) (k:Nat) (listed:Array Bool) (a:Act),(∀ j,j < l.length → l[j]?=ops[k + j]?) → k + l.length=n → HeadInv .any ops n listed → lexTo ops n T l.length k listed=true →
   wpStill P ops w G l a → wpAnyL P .any ops w n (fun listed' a'=>(listed'=T ∧ ∀ j ∈ Region.ready .any ops T,n ≤ j) ∧ G a') l.length listed a
 | [],k,listed,a,_,_,_,hB,h=>by
  simp only [List.length_nil,lexTo,Bool.and_eq_true,decide_eq_true_eq] at hB
  exact ⟨⟨hB.1,fun j hj=>of_decide_eq_true (List.all_eq_true.1 hB.2 j hj)⟩,h⟩
 | o :: l,k,listed,a,hl,hk,inv,hB,h=>by
  have h0:ops[k]?=some o:=by simpa using (hl 0 (by simp)).symm
  simp only [List.length_cons,lexTo,Bool.and_eq_true] at hB
  have hkn:k < n:=by simp only [List.length_cons] at hk;omega
  have hr:k ∈ Region.ready .any ops listed:=by simpa using hB.1.1
  have hst:stOp P ops w k (wpStill P ops w G l) a:=by
   unfold stOp
   simp only [h0]
   exact h
  obtain ⟨v,hy,hK⟩:=yieldsAt_of_stOp h0 hst
  refine head_first h0 hsel hs hc hkn (fun listed' a' hL j hj=>?_) l.length listed a inv (Region.free_spec h0 hB.1.2) hr hy ?_
  ·rw [hL.1.1] at hj
   exact hL.1.2 j hj
  ·exact head_lex hsel hs hc l (k + 1) _ _ (fun j hj=>by have:=hl (j + 1) (by simp;omega);simpa [Nat.add_assoc,Nat.add_comm 1 j] using this) (by simp only [List.length_cons] at hk;omega) (inv.set hr hkn) hB.2 hK

def headB (ops:Array Oper) (n:Nat) (T:Array Bool):Bool:=
 Region.noSelect ops && decide (n < ops.size) && Region.sinkB .any ops n && lateB ops n && lexTo ops n T n 0 (Array.replicate ops.size false)

theorem wp_region_head {id:Nat} {Q:Exit → Act → World → Prop} {a:Act} {l:List Oper} (n:Nat) (T:Array Bool) (hm:P.follows .mixedOrders=true) (hB:headB l.toArray n T=true)
  (h:wpStill P l.toArray w.drew (fun a'=>wpAny P .any l.toArray Q (l.length - n) T a' w.drew) (l.take n) a):(Code.region id l.toArray true).wp P Q a w:=by
 simp only [headB,Bool.and_eq_true,decide_eq_true_eq] at hB
 obtain ⟨⟨⟨⟨hsel,hn⟩,hs⟩,hc⟩,hlex⟩:=hB
 have hn':n < l.length:=by simpa using hn
 have htl:(l.take n).length=n:=by simp;omega
 have inv0:HeadInv .any l.toArray n (Array.replicate l.toArray.size false):=
  ⟨by simp,fun j oj _ hl=>(by rw [getD_replicate_false] at hl;cases hl),fun t _ ht=>getD_in (by simpa using ht) (getD_replicate_false _ _)⟩
 have H:=head_lex hsel hs hc (l.take n) 0 (Array.replicate l.toArray.size false) a (fun j hj=>by
  have hj':j < n:=by rw [htl] at hj;exact hj
  simp [hj']) (by simpa using htl) inv0 (by rw [htl];exact hlex) h
 refine wp_region_any hm ?_
 have:=wpAny_of_head (Q':=Q) (g:=l.length - n) (fun listed a' hL=>by rw [hL.1.1];exact hL.2) _ _ _ H
 rw [htl,show n + (l.length - n)=l.toArray.size by simp;omega] at this
 exact this

end

def bRest (_:St) (l:Int) (lo hi:Edge):(Edge × Int) ⊕ Rec:=if lo=hi then .inl (lo,0) else .inr ⟨1,l,l,lo,hi⟩

def zRest (_:St) (l:Int) (lo hi:Edge):(Edge × Int) ⊕ Rec:=if hi.to=0 then .inl (lo,0) else .inr ⟨2,l,l,lo,hi⟩

def cRest (M:St) (l:Int) (lo hi:Edge):(Edge × Int) ⊕ Rec:=
 if lo=hi then .inl (lo,0) else match look M.cs lo.to with
  | none=>.inr ⟨3,l,l,lo,hi⟩
  | some r=>if r.top=l + 1 then (if r.hi=hi then .inr ⟨3,l,r.bot,r.lo,hi⟩ else .inr ⟨3,l,l,lo,hi⟩) else .inr ⟨3,l,l,lo,hi⟩

def qRest (M:St) (l:Int) (lo hi:Edge):(Edge × Int) ⊕ Rec:=
 if hi.to=0 then .inl (lo,0) else match look M.cs lo.to with
  | none=>.inr ⟨4,l,l,lo,hi⟩
  | some r=>if lo=hi then (if r.top=l + 1 then .inr ⟨4,l,r.bot,r.lo,r.hi⟩ else .inr ⟨4,l,l,lo,hi⟩) else .inr ⟨4,l,l,lo,hi⟩

def makeAct (M:St) (f l:Int) (lo hi:Edge) (rest:(Edge × Int) ⊕ Rec):(Edge × Int) ⊕ Rec:=
 if l < 0 ∨ M.n ≤ l then .inl (⟨0,0⟩,3)
 else if M.leads f lo (l + 1)=false ∨ M.leads f hi (l + 1)=false then .inl (⟨0,0⟩,1) else rest

def actE0 (M:St):(Edge × Int) ⊕ Rec → Edge | .inl x=>x.1 | .inr r=>foundE M 0 r

theorem rec_ok {f l b:Int} {lo hi:Edge} (hf:0 ≤ f ∧ f ≤ 255) (h0:0 ≤ l) (h1:l ≤ 16) (hb:0 ≤ b ∧ b ≤ 255) (hlo:lo.ok) (hhi:hi.ok):(⟨f,l,b,lo,hi⟩:Rec).ok:=
 ⟨hf,⟨h0,by show l ≤ 255;omega⟩,hb,hlo,hhi⟩

theorem bdd_found0 {F:Nat → Prop} {w:World} {sb:Nat} {M:St} (h:StoreRep F w sb M) (r:Rec) (hr:r.ok) :
  Calls Tryz.prog 157 #[.pointer (some ⟨sb,0,none⟩),.agg #[.int .u8 r.form,.int .u8 r.top,.int .u8 r.bot,.int .u8 r.lo.tag,.int .u32 r.lo.to,.int .u8 r.hi.tag,.int .u32 r.hi.to]] w fun e w'=>e=.returned (.tuple #[.agg #[.int .u8 (foundE M 0 r).tag,.int .u32 (foundE M 0 r).to],.int .u8 (M.findErr r)]) ∧ Upd F w w' ∧ StoreRep (Grow F w w') w' sb (M.findSt r):=by
 have hf:=fun (W:World) (hW:Keeps w W)=>store_find (h.keeps hW) r hr
 by_cases he:M.findErr r=0
 ·have e1:foundE M 0 r=⟨0,M.findId r⟩:=if_pos he
  rw [e1,he]
  rw [he] at hf
  refine (bfound_ok sb r (M.findId r) w h.pos h.lt (fun W W1=>StoreRep (Grow F W W1) W1 sb (M.findSt r)) hf).mono ?_
  rintro e w' ⟨rfl,W,W1,h1,h2,h3,h4⟩
  exact ⟨rfl,h3.after h.lt h1 h2 h4⟩
 ·have e1:foundE M 0 r=⟨0,0⟩:=if_neg he
  rw [e1]
  refine (bfound_bad sb r (M.findId r) (M.findErr r) he w h.pos h.lt (fun W W1=>StoreRep (Grow F W W1) W1 sb (M.findSt r)) hf).mono ?_
  rintro e w' ⟨rfl,W,W1,h1,h2,h3,h4⟩
  exact ⟨rfl,h3.after h.lt h1 h2 h4⟩

theorem zdd_found0 {F:Nat → Prop} {w:World} {sb:Nat} {M:St} (h:StoreRep F w sb M) (r:Rec) (hr:r.ok) :
  Calls Tryz.prog 158 #[.pointer (some ⟨sb,0,none⟩),.agg #[.int .u8 r.form,.int .u8 r.top,.int .u8 r.bot,.int .u8 r.lo.tag,.int .u32 r.lo.to,.int .u8 r.hi.tag,.int .u32 r.hi.to]] w fun e w'=>e=.returned (.tuple #[.agg #[.int .u8 (foundE M 0 r).tag,.int .u32 (foundE M 0 r).to],.int .u8 (M.findErr r)]) ∧ Upd F w w' ∧ StoreRep (Grow F w w') w' sb (M.findSt r):=by
 have hf:=fun (W:World) (hW:Keeps w W)=>store_find (h.keeps hW) r hr
 by_cases he:M.findErr r=0
 ·have e1:foundE M 0 r=⟨0,M.findId r⟩:=if_pos he
  rw [e1,he]
  rw [he] at hf
  refine (yfound_ok sb r (M.findId r) w h.pos h.lt (fun W W1=>StoreRep (Grow F W W1) W1 sb (M.findSt r)) hf).mono ?_
  rintro e w' ⟨rfl,W,W1,h1,h2,h3,h4⟩
  exact ⟨rfl,h3.after h.lt h1 h2 h4⟩
 ·have e1:foundE M 0 r=⟨0,0⟩:=if_neg he
  rw [e1]
  refine (yfound_bad sb r (M.findId r) (M.findErr r) he w h.pos h.lt (fun W W1=>StoreRep (Grow F W W1) W1 sb (M.findSt r)) hf).mono ?_
  rintro e w' ⟨rfl,W,W1,h1,h2,h3,h4⟩
  exact ⟨rfl,h3.after h.lt h1 h2 h4⟩

theorem OrdRep.cells {F:Nat → Prop} {w:World} {ob:Nat} {ps:List Int} (h:OrdRep F w ob ps):∃ va vc lg lc,w.cell? ⟨ob,0,none⟩=some (.slice va ps.length vc) ∧ w.cell? ⟨ob,1,none⟩=some (.slice (some ⟨lg,0,none⟩) ps.length lc) ∧ IntsAt w va ps:=by
 obtain ⟨⟨va,vc,lg,lc,qs,h1,h2,h3,h4,h5⟩,_⟩:=h
 refine ⟨va,vc,lg,lc,by rw [cell_of_row w ob 0 _ _ _ h1];rfl,by rw [cell_of_row w ob 1 _ _ _ h1];rfl,fun i x hx=>?_⟩
 obtain ⟨vg,q1,q2,_⟩:=h3 (fun e=>by rw [e] at hx;simp at hx)
 rw [q1]
 exact q2.ints i x hx

theorem OrdRep.le {F:Nat → Prop} {w:World} {ob:Nat} {ps:List Int} (h:OrdRep F w ob ps):ps.length ≤ 16:=(permB_iff.1 h.perm).1

theorem ordVars_calls {F:Nat → Prop} {w:World} {ob:Nat} {ps:List Int} (h:OrdRep F w ob ps) :
  Calls Tryz.prog 38 #[.pointer (some ⟨ob,0,none⟩)] w fun e w'=>e=.returned (.int .i64 (ps.length:Int)) ∧ w=w':=by
 obtain ⟨va,vc,lg,lc,c0,c1,_⟩:=h.cells
 have hle:=h.le
 obtain ⟨n,hn⟩:∃ n,n=ps.length:=⟨_,rfl⟩
 rw [← hn] at c0 c1 hle ⊢
 clear h c1 hn
 go_enter Tryz.func38,Tryz.ntmps38
 go_wp2
 go_ret
 exact ⟨rfl,rfl⟩

theorem ordPerm_calls {F:Nat → Prop} {w:World} {ob:Nat} {ps:List Int} (h:OrdRep F w ob ps) :
  Calls Tryz.prog 40 #[.pointer (some ⟨ob,0,none⟩)] w fun e w'=>∃ a cap,e=.returned (.slice a ps.length cap) ∧ RowV w.heap.size w' a ps ∧ Keeps w w':=by
 obtain ⟨va,vc,lg,lc,c0,c1,hi⟩:=h.cells
 have hle:=h.le
 have hC:=fun W (hW:Keeps w W)=>clone_calls va vc ps W (hi.keeps hW) (by omega)
 obtain ⟨n,hn⟩:∃ n,n=ps.length:=⟨_,rfl⟩
 rw [← hn] at c0 c1 hC ⊢
 have HC:=Lib.hid hC
 clear h c1 hi hC hle hn
 go_enter Tryz.func40,Tryz.ntmps40
 go_wp2_with (first | (go_at_call 35;refine (HC.out _ (by (exact kp))).mono ?_;rintro e w1 ⟨a,cap,rfl,hr,hk⟩) | fail)
 go_ret
 exact ⟨a,cap,rfl,hr,hk⟩

theorem Keeps.frz {w w':World} (h:Keeps w w') {a:Addr} (hl:a.block < w.heap.size) (hc:w.frozen? a=false):w'.frozen? a=false:=(Below.frozen h hl).trans hc

theorem eql_same (x y:Edge) (h:x=y) (W:World):(binOp .eql 37 (.agg #[.int .u8 x.tag,.int .u32 x.to]) (.agg #[.int .u8 y.tag,.int .u32 y.to])).run Tryz.prog W=.ok (.bool true) W:=by rw [run_eql_edge];simp [h]

theorem eql_other (x y:Edge) (h:x ≠ y) (W:World):(binOp .eql 37 (.agg #[.int .u8 x.tag,.int .u32 x.to]) (.agg #[.int .u8 y.tag,.int .u32 y.to])).run Tryz.prog W=.ok (.bool false) W:=by rw [run_eql_edge];simp [h]

theorem csame_calls (x y:Edge) (w:World) :
  Calls Tryz.prog 89 #[.agg #[.int .u8 x.tag,.int .u32 x.to],.agg #[.int .u8 y.tag,.int .u32 y.to]] w fun e w'=>e=.returned (.bool (decide (x=y))) ∧ Keeps w w':=by
 obtain ⟨a,b⟩:=x
 obtain ⟨c,d⟩:=y
 go_enter Tryz.func89,Tryz.ntmps89
 go_wp2
 all_goals (go_ret;refine ⟨?_,by (exact kp)⟩)
 all_goals simp_all
 all_goals rfl

theorem csame_true (x y:Edge) (h:x=y) (w:World):Calls Tryz.prog 89 #[.agg #[.int .u8 x.tag,.int .u32 x.to],.agg #[.int .u8 y.tag,.int .u32 y.to]] w fun e w'=>e=.returned (.bool true) ∧ Keeps w w':=by
 have:=csame_calls x y w
 rwa [decide_eq_true h] at this

theorem csame_false (x y:Edge) (h:¬ x=y) (w:World):Calls Tryz.prog 89 #[.agg #[.int .u8 x.tag,.int .u32 x.to],.agg #[.int .u8 y.tag,.int .u32 y.to]] w fun e w'=>e=.returned (.bool false) ∧ Keeps w w':=by
 have:=csame_calls x y w
 rwa [decide_eq_false h] at this

theorem qsame_calls (x y:Edge) (w:World) :
  Calls Tryz.prog 90 #[.agg #[.int .u8 x.tag,.int .u32 x.to],.agg #[.int .u8 y.tag,.int .u32 y.to]] w fun e w'=>e=.returned (.bool (decide (x=y))) ∧ Keeps w w':=by
 obtain ⟨a,b⟩:=x
 obtain ⟨c,d⟩:=y
 go_enter Tryz.func90,Tryz.ntmps90
 go_wp2
 all_goals (go_ret;refine ⟨?_,by (exact kp)⟩)
 all_goals simp_all
 all_goals rfl

theorem qsame_true (x y:Edge) (h:x=y) (w:World):Calls Tryz.prog 90 #[.agg #[.int .u8 x.tag,.int .u32 x.to],.agg #[.int .u8 y.tag,.int .u32 y.to]] w fun e w'=>e=.returned (.bool true) ∧ Keeps w w':=by
 have:=qsame_calls x y w
 rwa [decide_eq_true h] at this

theorem qsame_false (x y:Edge) (h:¬ x=y) (w:World):Calls Tryz.prog 90 #[.agg #[.int .u8 x.tag,.int .u32 x.to],.agg #[.int .u8 y.tag,.int .u32 y.to]] w fun e w'=>e=.returned (.bool false) ∧ Keeps w w':=by
 have:=qsame_calls x y w
 rwa [decide_eq_false h] at this

end Go.Proofs.YtfpjogpjocedaaaGreat
