/-
  What View does, over the state (printed by wip/mk_vstore.py).
-/
import Derived.Test.YtfpjogpjocedaaaGreatPTMakeA
import Derived.RegionTactic
namespace Go.Proofs.YtfpjogpjocedaaaGreat
set_option linter.unusedSimpArgs false
set_option linter.unusedVariables false
set_option maxHeartbeats 600000
open Go.RowKit

theorem leads_some {M:St} {f:Int} {e:Edge} {l:Int} (h:M.leads f e l=true) {r:Rec} (hl:look M.cs e.to=some r):r.form=f ∧ l ≤ r.top ∧ e.tag ≤ r.top:=by
 have h2:=(look_some hl).1
 unfold St.leads at h
 rw [hl,decide_eq_false (show ¬ e.to < 2 by omega)] at h
 simp at h
 exact ⟨h.2.1.1,h.2.1.2,h.2.2⟩

def vOut (f l:Int) (e:Edge):Edge × Edge × Int:=
 if f=1 ∨ f=3 then (e,e,0) else if f=5 then (⟨l + 1,e.to⟩,⟨0,0⟩,0) else (e,⟨0,0⟩,0)

def viewAct (M:St) (f:Int) (e:Edge) (l:Int):(Edge × Edge × Int) ⊕ Rec:=
 if l < 0 ∨ M.n ≤ l then .inl (⟨0,0⟩,⟨0,0⟩,3)
 else if M.leads f e l=false then .inl (⟨0,0⟩,⟨0,0⟩,1)
 else if f=5 ∧ (e.to=0 ∨ l < e.tag) then .inl (e,e,0)
 else match look M.cs e.to with
  | none=>.inl (vOut f l e)
  | some r=>if l < r.top then .inl (vOut f l e) else if (f=3 ∨ f=4) ∧ r.bot ≠ r.top then .inr ⟨r.form,r.top + 1,r.bot,r.lo,r.hi⟩ else .inl (r.lo,r.hi,0)

def vLo (M:St):(Edge × Edge × Int) ⊕ Rec → Edge | .inl x=>x.1 | .inr r=>foundE M 0 r
def vHi (M:St) (f:Int):(Edge × Edge × Int) ⊕ Rec → Edge | .inl x=>x.2.1 | .inr r=>if M.findErr r=0 then (if f=4 then foundE M 0 r else r.hi) else ⟨0,0⟩
def vErr (M:St):(Edge × Edge × Int) ⊕ Rec → Int | .inl x=>x.2.2 | .inr r=>M.findErr r
def vSt (M:St):(Edge × Edge × Int) ⊕ Rec → St | .inl _=>M | .inr r=>M.findSt r
theorem foundE_ok {M:St} {t:Int} {r:Rec} (h:M.findErr r=0):foundE M t r=⟨t,M.findId r⟩:=if_pos h

theorem cbdd_found0 {F:Nat → Prop} {w:World} {sb:Nat} {M:St} (h:StoreRep F w sb M) (r:Rec) (hr:r.ok) :
  Calls Tryz.prog 159 #[.pointer (some ⟨sb,0,none⟩),.agg #[.int .u8 r.form,.int .u8 r.top,.int .u8 r.bot,.int .u8 r.lo.tag,.int .u32 r.lo.to,.int .u8 r.hi.tag,.int .u32 r.hi.to]] w fun e w'=>e=.returned (.tuple #[.agg #[.int .u8 (foundE M 0 r).tag,.int .u32 (foundE M 0 r).to],.int .u8 (M.findErr r)]) ∧ Upd F w w' ∧ StoreRep (Grow F w w') w' sb (M.findSt r):=by
 have hf:=fun (W:World) (hW:Keeps w W)=>store_find (h.keeps hW) r hr
 by_cases he:M.findErr r=0
 ·have e1:foundE M 0 r=⟨0,M.findId r⟩:=if_pos he
  rw [e1,he]
  rw [he] at hf
  refine (cfound_ok sb r (M.findId r) w h.pos h.lt (fun W W1=>StoreRep (Grow F W W1) W1 sb (M.findSt r)) hf).mono ?_
  rintro e w' ⟨rfl,W,W1,h1,h2,h3,h4⟩
  exact ⟨rfl,h3.after h.lt h1 h2 h4⟩
 ·have e1:foundE M 0 r=⟨0,0⟩:=if_neg he
  rw [e1]
  refine (cfound_bad sb r (M.findId r) (M.findErr r) he w h.pos h.lt (fun W W1=>StoreRep (Grow F W W1) W1 sb (M.findSt r)) hf).mono ?_
  rintro e w' ⟨rfl,W,W1,h1,h2,h3,h4⟩
  exact ⟨rfl,h3.after h.lt h1 h2 h4⟩

theorem czdd_found0 {F:Nat → Prop} {w:World} {sb:Nat} {M:St} (h:StoreRep F w sb M) (r:Rec) (hr:r.ok) :
  Calls Tryz.prog 160 #[.pointer (some ⟨sb,0,none⟩),.agg #[.int .u8 r.form,.int .u8 r.top,.int .u8 r.bot,.int .u8 r.lo.tag,.int .u32 r.lo.to,.int .u8 r.hi.tag,.int .u32 r.hi.to]] w fun e w'=>e=.returned (.tuple #[.agg #[.int .u8 (foundE M 0 r).tag,.int .u32 (foundE M 0 r).to],.int .u8 (M.findErr r)]) ∧ Upd F w w' ∧ StoreRep (Grow F w w') w' sb (M.findSt r):=by
 have hf:=fun (W:World) (hW:Keeps w W)=>store_find (h.keeps hW) r hr
 by_cases he:M.findErr r=0
 ·have e1:foundE M 0 r=⟨0,M.findId r⟩:=if_pos he
  rw [e1,he]
  rw [he] at hf
  refine (zfound_ok sb r (M.findId r) w h.pos h.lt (fun W W1=>StoreRep (Grow F W W1) W1 sb (M.findSt r)) hf).mono ?_
  rintro e w' ⟨rfl,W,W1,h1,h2,h3,h4⟩
  exact ⟨rfl,h3.after h.lt h1 h2 h4⟩
 ·have e1:foundE M 0 r=⟨0,0⟩:=if_neg he
  rw [e1]
  refine (zfound_bad sb r (M.findId r) (M.findErr r) he w h.pos h.lt (fun W W1=>StoreRep (Grow F W W1) W1 sb (M.findSt r)) hf).mono ?_
  rintro e w' ⟨rfl,W,W1,h1,h2,h3,h4⟩
  exact ⟨rfl,h3.after h.lt h1 h2 h4⟩

open Go

def lateB (ops:Array Oper) (n:Nat):Bool:=
 (List.range ops.size).all fun t=>decide (t ≤ n) || (List.range t).any fun j=>decide (n ≤ j) && Region.waitsFor .any ops t j

section
variable {P:Program} {ops:Array Oper} {w:World}

theorem none_late {n:Nat} {listed:Array Bool} (hs:Region.sinkB .any ops n=true) (hc:lateB ops n=true) (inv:HeadInv .any ops n listed) :
  ∀ (d i:Nat),n - i=d → i < n → listed.getD i true=false → ∀ t ∈ Region.ready .any ops listed,t < n:=by
 intro d
 induction d using Nat.strongRecOn with
 | _ d ih=>
  intro i hd hi hun t hr
  refine Classical.byContradiction fun hlt=>?_
  obtain ⟨_,o,ho,hall⟩:=mem_ready.1 hr
  have hts:t < ops.size:=(Array.getElem?_eq_some_iff.1 ho).1
  rcases Nat.lt_or_ge n t with hnt | hnt
  ·have h1:=List.all_eq_true.1 hc t (List.mem_range.2 hts)
   rw [Bool.or_eq_true] at h1
   rcases h1 with h1 | h1
   ·have:=of_decide_eq_true h1
    omega
   ·obtain ⟨j,hj,h2⟩:=List.any_eq_true.1 h1
    rw [Bool.and_eq_true] at h2
    obtain ⟨o',ho',e,he,hb,hon⟩:=Region.waitsFor_spec h2.2
    obtain rfl:o'=o:=Option.some.inj (ho'.symm.trans ho)
    have h3:=hall e he hb
    rw [hon,getD_both (inv.tail j (of_decide_eq_true h2.1) (by have:=List.mem_range.1 hj;omega))] at h3
    cases h3
  ·obtain rfl:t=n:=by omega
   obtain ⟨j,hj,h2⟩:=List.any_eq_true.1 (List.all_eq_true.1 hs i (List.mem_range.2 hi))
   rw [Bool.and_eq_true] at h2
   have hij:=of_decide_eq_true h2.1
   obtain ⟨o',ho',e,he,hb,hon⟩:=Region.waitsFor_spec h2.2
   have hjr:=List.mem_range.1 hj
   by_cases hjt:j=t
   ·subst hjt
    obtain rfl:o'=o:=Option.some.inj (ho'.symm.trans ho)
    have h3:=hall e he hb
    rw [hon,getD_both hun] at h3
    cases h3
   ·rcases hl:listed.getD j false with _ | _
    ·exact hlt (ih (t - j) (by omega) j rfl (by omega) (getD_in (by rw [inv.size];omega) hl) t hr)
    ·have h3:=inv.closed j o' ho' hl e he hb
     rw [hon,getD_both hun] at h3
     cases h3

theorem head_first {n i:Nat} {oi:Oper} {v:Value} {L:Array Bool → Act → Prop} (hi:ops[i]?=some oi) (hsel:Region.noSelect ops=true) (hs:Region.sinkB .any ops n=true) (hc:lateB ops n=true) (hin:i < n)
  (hend:∀ listed a,L listed a → ∀ j ∈ Region.ready .any ops listed,n ≤ j) :
  ∀ (f:Nat) (listed:Array Bool) (a:Act),HeadInv .any ops n listed →
   (∀ j oj,ops[j]?=some oj → j ≠ i → listed.getD j true=false → (∀ e ∈ oj.after,Region.binds .any e=true → e.on ≠ i) → oi.apart ops oj=true) →
   i ∈ Region.ready .any ops listed → YieldsAt P ops w oi v a →
   wpAnyL P .any ops w n L f (listed.setIfInBounds i true) (a.put oi.dst v) → wpAnyL P .any ops w n L (f + 1) listed a
 | f,listed,a,inv,hfree,hr,hy,H=>by
  have hun:=(mem_ready.1 hr).1
  refine ⟨fun h=>(by rw [h] at hr;cases hr),fun j hj=>?_⟩
  have hjn:=none_late hs hc inv _ i rfl hin hun j hj
  refine ⟨hjn,?_⟩
  by_cases hji:j=i
  ·subst hji
   exact hy.stOp hi H
  ·cases f with
   | zero=>
    have:=hend _ _ H j (ready_mono hj hji)
    omega
   | succ f=>
    obtain ⟨hjun,oj,hoj,hall⟩:=mem_ready.1 hj
    have hno:∀ e ∈ oj.after,Region.binds .any e=true → e.on ≠ i:=fun e he hb heq=>by
     have h1:=hall e he hb
     rw [heq,getD_both hun] at h1
     cases h1
    have h2:=stOp_put hoj (hfree j oj hoj hji hjun hno) (fun cs b=>Region.noSelect_spec hsel i oi cs b hi) (fun cs b=>Region.noSelect_spec hsel j oj cs b hoj) hy (H.2 j (ready_mono hj hji)).2
    refine stOp_mono (fun a' h3=>head_first hi hsel hs hc hin hend f (listed.setIfInBounds j true) a' (inv.set hj hjn) ?_ (ready_mono hr (Ne.symm hji)) h3.1 ?_) h2
    ·intro k ok hk hki hu hn'
     refine hfree k ok hk hki ?_ hn'
     by_cases hjk:j=k
     ·subst hjk
      exact hjun
     ·rwa [getD_set_ne true hjk] at hu
    ·rw [Array.setIfInBounds_comm _ _ hji]
     exact h3.2

def lexTo (ops:Array Oper) (n:Nat) (T:Array Bool):Nat → Nat → Array Bool → Bool
 | 0,_,listed=>decide (listed=T) && (Region.ready .any ops T).all (fun j=>decide (n ≤ j))
 | f + 1,k,listed=>(Region.ready .any ops listed).contains k && Region.free .any ops listed k && lexTo ops n T f (k + 1) (listed.setIfInBounds k true)

theorem head_lex {n:Nat} {T:Array Bool} {G:Act → Prop} (hsel:Region.noSelect ops=true) (hs:Region.sinkB .any ops n=true) (hc:lateB ops n=true) :
  ∀ (l:List Oper) (k:Nat) (listed:Array Bool) (a:Act),(∀ j,j < l.length → l[j]?=ops[k + j]?) → k + l.length=n → HeadInv .any ops n listed → lexTo ops n T l.length k listed=true →
   wpStill P ops w G l a → wpAnyL P .any ops w n (fun listed' a'=>(listed'=T ∧ ∀ j ∈ Region.ready .any ops T,n ≤ j) ∧ G a') l.length listed a
 | [],k,listed,a,_,_,_,hB,h=>by
  simp only [List.length_nil,lexTo,Bool.and_eq_true,decide_eq_true_eq] at hB
  exact ⟨⟨hB.1,fun j hj=>of_decide_eq_true (List.all_eq_true.1 hB.2 j hj)⟩,h⟩
 | o :: l,k,listed,a,hl,hk,inv,hB,h=>by
  have h0:ops[k]?=some o:=by simpa using (hl 0 (by simp)).symm
  simp only [List.length_cons,lexTo,Bool.and_eq_true] at hB
  have hkn:k < n:=by simp only [List.length_cons] at hk;omega
  have hr:k ∈ Region.ready .any ops listed:=by simpa using hB.1.1
  have hst:stOp P ops w k (wpStill P ops w G l) a:=by
   unfold stOp
   simp only [h0]
   exact h
  obtain ⟨v,hy,hK⟩:=yieldsAt_of_stOp h0 hst
  refine head_first h0 hsel hs hc hkn (fun listed' a' hL j hj=>?_) l.length listed a inv (Region.free_spec h0 hB.1.2) hr hy ?_
  ·rw [hL.1.1] at hj
   exact hL.1.2 j hj
  ·exact head_lex hsel hs hc l (k + 1) _ _ (fun j hj=>by have:=hl (j + 1) (by simp;omega);simpa [Nat.add_assoc,Nat.add_comm 1 j] using this) (by simp only [List.length_cons] at hk;omega) (inv.set hr hkn) hB.2 hK

def headB (ops:Array Oper) (n:Nat) (T:Array Bool):Bool:=
 Region.noSelect ops && decide (n < ops.size) && Region.sinkB .any ops n && lateB ops n && lexTo ops n T n 0 (Array.replicate ops.size false)

theorem wp_region_head {id:Nat} {Q:Exit → Act → World → Prop} {a:Act} {l:List Oper} (n:Nat) (T:Array Bool) (hm:P.follows .mixedOrders=true) (hB:headB l.toArray n T=true)
  (h:wpStill P l.toArray w.drew (fun a'=>wpAny P .any l.toArray Q (l.length - n) T a' w.drew) (l.take n) a):(Code.region id l.toArray true).wp P Q a w:=by
 simp only [headB,Bool.and_eq_true,decide_eq_true_eq] at hB
 obtain ⟨⟨⟨⟨hsel,hn⟩,hs⟩,hc⟩,hlex⟩:=hB
 have hn':n < l.length:=by simpa using hn
 have htl:(l.take n).length=n:=by simp;omega
 have inv0:HeadInv .any l.toArray n (Array.replicate l.toArray.size false):=
  ⟨by simp,fun j oj _ hl=>(by rw [getD_replicate_false] at hl;cases hl),fun t _ ht=>getD_in (by simpa using ht) (getD_replicate_false _ _)⟩
 have H:=head_lex hsel hs hc (l.take n) 0 (Array.replicate l.toArray.size false) a (fun j hj=>by
  have hj':j < n:=by rw [htl] at hj;exact hj
  simp [hj']) (by simpa using htl) inv0 (by rw [htl];exact hlex) h
 refine wp_region_any hm ?_
 have:=wpAny_of_head (Q':=Q) (g:=l.length - n) (fun listed a' hL=>by rw [hL.1.1];exact hL.2) _ _ _ H
 rw [htl,show n + (l.length - n)=l.toArray.size by simp;omega] at this
 exact this

end

def IntsAt (w:World) (a:Option Addr) (ps:List Int):Prop:=∀ i x,ps[i]?=some x → ∃ b off,a=some ⟨b,off,none⟩ ∧ w.cell? ⟨b,off + i,none⟩=some (.int .i64 x)

theorem IntsAt.keeps {w w':World} {a:Option Addr} {ps:List Int} (h:IntsAt w a ps) (hk:Keeps w w'):IntsAt w' a ps:=fun i x hx=>by
 obtain ⟨b,off,ha,hc⟩:=h i x hx
 exact ⟨b,off,ha,hk.cell hc⟩

theorem wrap_nat64 (n:Nat) (h:n < 2 ^ 63):IntKind.i64.wrap (n:Int)=(n:Int):=by
 have e:(n:Int) % 2 ^ 64=n:=Int.emod_eq_of_lt (by omega) (by omega)
 simp only [IntKind.wrap,IntKind.bits,IntKind.signed,e]
 rw [if_neg]
 simp
 omega

theorem and_one_i64 (E:Int) (h0:0 ≤ E) (h1:E ≤ 9223372036854775807):bits BinOp.and IntKind.i64 E 1=E % 2:=by
 obtain ⟨a,rfl⟩:∃ a:Nat,E=(a:Int):=⟨E.toNat,by omega⟩
 have hx2:a &&& 1=a % 2:=Nat.and_one_is_mod a
 have h1:(BitVec.ofInt 64 (a:Int)).toNat=a:=by
  rw [BitVec.ofInt_natCast,BitVec.toNat_ofNat];exact Nat.mod_eq_of_lt (by omega)
 have h2:(BitVec.ofInt 64 ((1:Nat):Int)).toNat=1:=by
  rw [BitVec.ofInt_natCast,BitVec.toNat_ofNat]
 show IntKind.i64.wrap ((BitVec.ofInt 64 (a:Int) &&& BitVec.ofInt 64 ((1:Nat):Int)).toNat:Int)=_
 rw [BitVec.toNat_and,h1,h2,hx2,wrap_nat64 _ (by omega)]
 omega

theorem or_i64 (a b:Nat) (ha:a < 2 ^ 62) (hb:b < 2 ^ 62):bits BinOp.or IntKind.i64 (a:Int) (b:Int)=((a ||| b:Nat):Int):=by
 have h1:∀ c:Nat,c < 2 ^ 62 → (BitVec.ofInt 64 (c:Int)).toNat=c:=fun c hc=>by
  rw [BitVec.ofInt_natCast,BitVec.toNat_ofNat];exact Nat.mod_eq_of_lt (by omega)
 have hx:a ||| b < 2 ^ 62:=Nat.or_lt_two_pow ha hb
 show IntKind.i64.wrap ((BitVec.ofInt 64 (a:Int) ||| BitVec.ofInt 64 (b:Int)).toNat:Int)=_
 rw [BitVec.toNat_or,h1 a ha,h1 b hb,wrap_nat64 _ (by omega)]

def MaskOf (m:Nat) (l:List Int):Prop:=m < 65536 ∧ ∀ j:Nat,m.testBit j=true ↔ (j:Int) ∈ l

theorem MaskOf.nil:MaskOf 0 []:=⟨by decide,fun j=>by simp⟩

theorem MaskOf.add {m:Nat} {l:List Int} {x:Int} (h:MaskOf m l) (h0:0 ≤ x) (h1:x < 16):MaskOf (m ||| 2 ^ x.toNat) (l ++ [x]):=by
 have hp:2 ^ x.toNat < 2 ^ 16:=Nat.pow_lt_pow_right (by decide) (by omega)
 refine ⟨Nat.or_lt_two_pow (n:=16) h.1 hp,fun j=>?_⟩
 rw [Nat.testBit_or,Bool.or_eq_true,h.2 j,List.mem_append,List.mem_singleton,Nat.testBit_two_pow]
 simp only [decide_eq_true_eq]
 constructor
 ·rintro (a | a)
  ·exact .inl a
  ·exact .inr (by omega)
 ·rintro (a | a)
  ·exact .inl a
  ·exact .inr (by omega)

theorem MaskOf.bit {m:Nat} {l:List Int} {x:Int} (h:MaskOf m l) (h0:0 ≤ x):(bits BinOp.and IntKind.i64 ((m:Int) / 2 ^ x.toNat) 1 == 1)=decide (x ∈ l):=by
 have hm:=h.1
 have hp:(0:Int) < 2 ^ x.toNat:=Int.pow_pos (by decide)
 have a0:0 ≤ (m:Int) / 2 ^ x.toNat:=Int.ediv_nonneg (by omega) (by omega)
 have a1:(m:Int) / 2 ^ x.toNat ≤ m:=Int.ediv_le_self _ (by omega)
 rw [and_one_i64 _ a0 (by omega)]
 have hb:=h.2 x.toNat
 rw [show ((x.toNat:Nat):Int)=x by omega] at hb
 have e:(m:Int) / 2 ^ x.toNat=((m / 2 ^ x.toNat:Nat):Int):=by push_cast;rfl
 rw [e]
 have ht:m.testBit x.toNat=decide (m / 2 ^ x.toNat % 2=1):=Nat.testBit_eq_decide_div_mod_eq
 by_cases hin:x ∈ l
 ·have:=hb.2 hin
  rw [ht,decide_eq_true_eq] at this
  rw [decide_eq_true hin,beq_iff_eq]
  omega
 ·have:¬ m / 2 ^ x.toNat % 2=1:=fun hh=>hin (hb.1 (by rw [ht];exact decide_eq_true hh))
  rw [decide_eq_false hin,beq_eq_false_iff_ne]
  omega

end Go.Proofs.YtfpjogpjocedaaaGreat
