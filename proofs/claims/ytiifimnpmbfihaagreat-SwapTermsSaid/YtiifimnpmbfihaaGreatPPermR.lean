/-
  The document's permutations: ramageref02.Right, Same, Step; ramageref26.Moved.
-/
import Derived.Test.YtiifimnpmbfihaaGreatPMakeBZ
import Derived.Test.YtiifimnpmbfihaaGreatPMakeC
import Derived.Test.YtiifimnpmbfihaaGreatPMakeQ
import Derived.Test.YtiifimnpmbfihaaGreatPVSA
namespace Go.Proofs.YtiifimnpmbfihaaGreat
set_option linter.unusedSimpArgs false
set_option linter.unusedVariables false
set_option maxHeartbeats 600000
open Go.RowKit

theorem perm_of_sub:∀ (R ps:List Int),R.Nodup → (∀ x ∈ R,x ∈ ps) → ps.length ≤ R.length → ps.Perm R:=by
 intro R
 induction R with
 | nil=>
  intro ps _ _ hl
  rw [List.length_nil,Nat.le_zero,List.length_eq_zero_iff] at hl
  rw [hl]
 | cons x R ih=>
  intro ps hn hs hl
  rw [List.nodup_cons] at hn
  have hx:=hs x (by simp)
  have hp:=List.perm_cons_erase hx
  refine hp.trans (List.Perm.cons x (ih _ hn.2 (fun y hy=>?_) ?_))
  ·have hyx:y ≠ x:=fun e=>hn.1 (e ▸ hy)
   exact (List.mem_erase_of_ne hyx).2 (hs y (by simp [hy]))
  ·have:=hp.length_eq
   simp at this hl
   omega

def numsI (n:Nat):List Int:=(List.range n).map (fun i:Nat=>(i:Int))

theorem numsI_len (n:Nat):(numsI n).length=n:=by unfold numsI;simp

theorem mem_numsI {n:Nat} {x:Int}:x ∈ numsI n ↔ 0 ≤ x ∧ x < (n:Int):=by
 unfold numsI
 rw [List.mem_map]
 constructor
 ·rintro ⟨a,ha,rfl⟩
  rw [List.mem_range] at ha
  omega
 ·intro h
  exact ⟨x.toNat,by rw [List.mem_range];omega,by omega⟩

theorem nodup_numsI (n:Nat):(numsI n).Nodup:=by
 unfold numsI
 exact List.Pairwise.map _ (fun a b (h:a ≠ b) e=>h (by omega)) List.nodup_range

theorem permB_perm {ps:List Int}:permB ps=true ↔ (ps.length ≤ 16 ∧ ps.Perm (numsI ps.length)):=by
 rw [permB_iff]
 constructor
 ·rintro ⟨h1,h2,h3⟩
  exact ⟨h1,(perm_of_sub ps (numsI ps.length) h3 (fun x hx=>mem_numsI.2 (h2 x hx)) (by rw [numsI_len];omega)).symm⟩
 ·rintro ⟨h1,h2⟩
  exact ⟨h1,fun x hx=>mem_numsI.1 (h2.mem_iff.1 hx),h2.nodup_iff.2 (nodup_numsI _)⟩

theorem permB_count {ps:List Int} (h16:ps.length ≤ 16):permB ps=true ↔ ∀ i:Nat,i < ps.length → ps.count (i:Int)=1:=by
 rw [permB_perm]
 constructor
 ·rintro ⟨_,h⟩ i hi
  rw [h.count_eq,(nodup_numsI _).count,if_pos (mem_numsI.2 (by omega))]
 ·intro h
  refine ⟨h16,perm_of_sub _ _ (nodup_numsI _) (fun x hx=>?_) (by rw [numsI_len];omega)⟩
  obtain ⟨h0,h1⟩:=mem_numsI.1 hx
  have:=h x.toNat (by omega)
  rw [show ((x.toNat:Nat):Int)=x by omega] at this
  exact List.count_pos_iff.1 (by omega)

set_option maxRecDepth 100000 in
theorem refRight_calls (a:Option Addr) (cap:Nat) (ps:List Int) (w:World) (h:IntsAt w a ps) (hl:ps.length ≤ 16) :
  Calls Tryz.prog 20 #[.slice a ps.length cap] w fun e w'=>e=.returned (.bool (permB ps)) ∧ w=w':=by
 have hcnt:=permB_count hl
 obtain ⟨N,hN⟩:∃ N,N=ps.length:=⟨_,rfl⟩
 rw [← hN] at hl hcnt ⊢
 have H:=Lib.hid h
 have HN:=Lib.hid hN
 have HC:=Lib.hid hcnt
 clear h hN hcnt
 go_enter Tryz.func20,Tryz.ntmps20
 go_wp2
 go_loopg [3,4,5] N (fun gk s3 s4 s5 wr=>∃ (d:Nat),s3=.int .i64 (d:Int) ∧ d + gk=N ∧ (∀ i:Nat,i < d → ps.count (i:Int)=1) ∧ w=wr)
 case atStart=>exact ⟨0,rfl,by omega,fun i hi=>by omega,rfl⟩
 case round=>
  obtain ⟨d,rfl,hd,hall,rfl⟩:=hrel
  have HALL:=Lib.hid hall
  obtain ⟨g0,hg0⟩:∃ g,g=gk:=⟨_,rfl⟩
  have HG0:=Lib.hid hg0
  clear hall hg0
  by_cases hlt:d < N
  ·go_wp2_with fail
   go_loopg [4,5] N (fun gk s4 s5 wi=>∃ (j c:Nat),s5=.int .i64 (j:Int) ∧ s4=.int .i64 (c:Int) ∧ j + gk=N ∧ c=(ps.take j).count (d:Int) ∧ c ≤ j ∧ w=wi)
   case atStart=>exact ⟨0,0,rfl,rfl,by omega,by simp,by omega,rfl⟩
   case round=>
    obtain ⟨j,c,rfl,rfl,hj,hcc,hcj,rfl⟩:=hrel
    have HCC:=Lib.hid hcc
    clear hcc
    by_cases hjl:j < N
    ·obtain ⟨x,hx⟩:∃ b,ps[j]?=some b:=⟨_,List.getElem?_eq_getElem (by rw [← HN.out];exact hjl)⟩
     obtain ⟨b,off,rfl,hc⟩:=H.out j x hx
     have ht:=take_snoc hx
     have HT:=Lib.hid ht
     clear hx ht
     by_cases hxd:x=(d:Int)
     ·subst hxd
      go_wp2_with fail
      go_roundg (gk - 1)
      case rel=>exact ⟨j + 1,c + 1,by simp,by simp,by omega,by rw [HT.out,List.count_append,HCC.out];simp,by omega,rfl⟩
      case measure=>omega
     ·go_wp2_with fail
      go_roundg (gk - 1)
      case rel=>exact ⟨j + 1,c,by simp,rfl,by omega,by rw [HT.out,List.count_append,HCC.out];simp [hxd],by omega,rfl⟩
      case measure=>omega
    ·have hcp:c=ps.count (d:Int):=by
      rw [HCC.out,List.take_of_length_le (by rw [← HN.out];omega)]
     have HCP:=Lib.hid hcp
     clear hcp
     by_cases h1:c=1
     ·subst h1
      have hall:∀ i:Nat,i < d + 1 → ps.count (i:Int)=1:=fun i hi=>by
       by_cases e:i=d
       ·subst e;exact HCP.out.symm
       ·exact HALL.out i (by omega)
      have HALL2:=Lib.hid hall
      clear hall
      go_wp2_with fail
      go_roundg (g0 - 1)
      case rel=>exact ⟨d + 1,by simp,by have:=HG0.out;omega,HALL2.out,rfl⟩
      case measure=>have:=HG0.out;omega
     ·have hf:permB ps=false:=by
       cases hb:permB ps with
       | false=>rfl
       | true=>have:=HC.out.1 hb d hlt;have:=HCP.out;omega
      have HF:=Lib.hid hf
      have g1:((c:Int) != 1)=true:=by simp;omega
      clear hf
      go_wp2_with fail
      go_ret
      exact ⟨by rw [HF.out];rfl,rfl⟩
  ·have ht:permB ps=true:=HC.out.2 (fun i hi=>HALL.out i (by omega))
   have HT:=Lib.hid ht
   clear ht
   go_wp2_with fail
   go_ret
   exact ⟨by rw [HT.out];simp;omega,rfl⟩

set_option maxRecDepth 100000 in
theorem refSame_calls (a b:Option Addr) (cap cap2:Nat) (ps qs:List Int) (w:World) (h1:IntsAt w a ps) (h2:IntsAt w b qs) (hl1:ps.length ≤ 1048576) (hl2:qs.length ≤ 1048576) :
  Calls Tryz.prog 35 #[.slice a ps.length cap,.slice b qs.length cap2] w fun e w'=>e=.returned (.bool (decide (ps=qs))) ∧ Keeps w w':=by
 by_cases hne:ps.length=qs.length
 ·obtain ⟨N,hN⟩:∃ N,N=ps.length:=⟨_,rfl⟩
  have hM:N=qs.length:=hN.trans hne
  rw [← hM,← hN]
  rw [← hN] at hl1
  have H1:=Lib.hid h1
  have H2:=Lib.hid h2
  have HN:=Lib.hid hN
  have HM:=Lib.hid hM
  clear h1 h2 hN hM hne hl2
  go_enter Tryz.func35,Tryz.ntmps35
  go_wp2
  go_loopg [5] N (fun gk s5 wr=>∃ d:Nat,s5=.int .i64 (d:Int) ∧ d + gk=N ∧ (∀ i,i < d → ps[i]?=qs[i]?) ∧ Keeps w wr)
  case atStart=>exact ⟨0,rfl,by omega,fun i hi=>by omega,by (exact kp)⟩
  case round=>
   obtain ⟨d,rfl,hd,hn,hk⟩:=hrel
   have HNN:=Lib.hid hn
   clear hn
   by_cases hlt:d < N
   ·obtain ⟨x,hx⟩:∃ b,ps[d]?=some b:=⟨_,List.getElem?_eq_getElem (by rw [← HN.out];exact hlt)⟩
    obtain ⟨y,hy⟩:∃ b,qs[d]?=some b:=⟨_,List.getElem?_eq_getElem (by rw [← HM.out];exact hlt)⟩
    obtain ⟨b1,o1,rfl,c0⟩:=H1.out d x hx
    obtain ⟨b2,o2,rfl,c1⟩:=H2.out d y hy
    replace c0:=hk.cell c0
    replace c1:=hk.cell c1
    have HX:=Lib.hid hx
    have HY:=Lib.hid hy
    have i0:(0:Int) ≤ (d:Int):=by omega
    have i1:(d:Int) < (N:Int):=by omega
    clear hx hy
    by_cases hab:x=y
    ·subst hab
     go_wp2_with fail
     go_quiet (fail)
     go_wp2
     go_roundg (gk - 1)
     case rel=>
      refine ⟨d + 1,by simp,by omega,fun i hi=>?_,by (exact kp)⟩
      by_cases e:i=d
      ·subst e;rw [HX.out,HY.out]
      ·exact HNN.out i (by omega)
     case measure=>omega
    ·have gab:(x != y)=true:=by simp [hab]
     have hf:Hid (¬ ps=qs):=Lib.hid (fun e=>by have:=HX.out;rw [e,HY.out] at this;exact hab (Option.some.inj this).symm)
     go_wp2_with fail
     go_quiet (fail)
     go_wp2
     go_ret
     exact ⟨by rw [decide_eq_false hf.out];rfl,by (exact kp)⟩
   ·have hg0:d=N:=by omega
    have hh:ps=qs:=by
     apply List.ext_getElem?
     intro i
     by_cases hi:i < d
     ·exact HNN.out i hi
     ·rw [List.getElem?_eq_none (by rw [← HN.out];omega),List.getElem?_eq_none (by rw [← HM.out];omega)]
    have HH:=Lib.hid hh
    clear hg0 hh
    go_wp2_with fail
    go_ret
    exact ⟨by rw [decide_eq_true HH.out];rfl,hk⟩
 ·have hf:decide (ps=qs)=false:=decide_eq_false (fun e=>hne (by rw [e]))
  obtain ⟨N,hN⟩:∃ N,N=ps.length:=⟨_,rfl⟩
  obtain ⟨K,hK⟩:∃ K,K=qs.length:=⟨_,rfl⟩
  rw [hf]
  rw [← hN,← hK] at hne ⊢
  have gne:((N:Int) != (K:Int))=true:=by simp;omega
  clear h1 h2 hl1 hl2 hN hK hf hne
  go_enter Tryz.func35,Tryz.ntmps35
  go_wp2
  go_ret
  exact ⟨rfl,by (exact kp)⟩

theorem bdd_make {F:Nat → Prop} {w:World} {sb:Nat} {M:St} (h:StoreRep F w sb M) (l:Int) (lo hi:Edge) (hlo:lo.ok) (hhi:hi.ok) :
  Calls Tryz.prog 231 #[.pointer (some ⟨sb,0,none⟩),.int .i64 l,.agg #[.int .u8 lo.tag,.int .u32 lo.to],.agg #[.int .u8 hi.tag,.int .u32 hi.to]] w fun r w'=>
   r=.returned (.tuple #[.agg #[.int .u8 (actE0 M (makeAct M 1 l lo hi (bRest M l lo hi))).tag,.int .u32 (actE0 M (makeAct M 1 l lo hi (bRest M l lo hi))).to],.int .u8 (actErr M (makeAct M 1 l lo hi (bRest M l lo hi)))]) ∧ Upd F w w' ∧ StoreRep (Grow F w w') w' sb (actSt M (makeAct M 1 l lo hi (bRest M l lo hi))):=by
 have hn:=h.wf.n16
 have hv:=fun (W:World) (hW:Keeps w W)=>store_vars (h.keeps hW)
 have hllo:=fun (W:World) (hW:Keeps w W)=>store_leads (h.keeps hW) 1 lo (l + 1) hlo
 have hlhi:=fun (W:World) (hW:Keeps w W)=>store_leads (h.keeps hW) 1 hi (l + 1) hhi
 by_cases c1:l < 0 ∨ M.n ≤ l
 ·have ev:makeAct M 1 l lo hi (bRest M l lo hi)=.inl (⟨0,0⟩,3):=if_pos c1
  rw [ev]
  by_cases c0:l < 0
  ·exact (bmake_neg sb l M.n lo hi w hn h.pos hv c0).mono fun r w' hr=>⟨hr.1,h.stay hr.2⟩
  ·exact (bmake_big sb l M.n lo hi w hn h.pos hv (by omega) (by omega)).mono fun r w' hr=>⟨hr.1,h.stay hr.2⟩
 ·have h0:0 ≤ l:=by omega
  have h1:l < M.n:=by omega
  by_cases c2:M.leads 1 lo (l + 1)=false ∨ M.leads 1 hi (l + 1)=false
  ·have ev:makeAct M 1 l lo hi (bRest M l lo hi)=.inl (⟨0,0⟩,1):=by unfold makeAct;rw [if_neg c1,if_pos c2]
   rw [ev]
   rcases bool_cases (M.leads 1 lo (l + 1)) with b1 | b1
   ·rw [b1] at hllo
    exact (bmake_lo sb l M.n lo hi w hn h.pos hv h0 h1 hllo).mono fun r w' hr=>⟨hr.1,h.stay hr.2⟩
   ·have b2:M.leads 1 hi (l + 1)=false:=by rcases c2 with c2 | c2;rw [c2] at b1;cases b1;exact c2
    rw [b1] at hllo
    rw [b2] at hlhi
    exact (bmake_hi sb l M.n lo hi w hn h.pos hv h0 h1 hllo hlhi).mono fun r w' hr=>⟨hr.1,h.stay hr.2⟩
  ·have b1:M.leads 1 lo (l + 1)=true:=by rcases bool_cases (M.leads 1 lo (l + 1)) with b | b;exact (c2 (.inl b)).elim;exact b
   have b2:M.leads 1 hi (l + 1)=true:=by rcases bool_cases (M.leads 1 hi (l + 1)) with b | b;exact (c2 (.inr b)).elim;exact b
   have ev:makeAct M 1 l lo hi (bRest M l lo hi)=bRest M l lo hi:=by unfold makeAct;rw [if_neg c1,if_neg c2]
   rw [ev]
   rw [b1] at hllo
   rw [b2] at hlhi
   by_cases s0:lo=hi
   ·have e1:bRest M l lo hi=.inl (lo,0):=if_pos s0
    rw [e1]
    exact (bmake_same sb l M.n lo hi w hn h.pos hv h0 h1 hllo hlhi s0).mono fun r w' hr=>⟨hr.1,h.stay hr.2⟩
   have hr:(⟨1,l,l,lo,hi⟩:Rec).ok:=rec_ok (by decide) h0 (by omega) ⟨h0,by omega⟩ hlo hhi
   have e1:bRest M l lo hi=.inr ⟨1,l,l,lo,hi⟩:=if_neg s0
   rw [e1]
   have hf:=fun (W:World) (hW:Keeps w W)=>bdd_found0 (h.keeps hW) ⟨1,l,l,lo,hi⟩ hr
   refine (bmake_found (fun W W1=>StoreRep (Grow F W W1) W1 sb (M.findSt ⟨1,l,l,lo,hi⟩)) sb l M.n lo hi _ _ _ w hn h.pos hv h0 h1 hllo hlhi s0 h.lt hf).mono ?_
   rintro e w' ⟨rfl,W,W1,q1,q2,q3,q4⟩
   exact ⟨rfl,q3.after h.lt q1 q2 q4⟩

theorem zdd_make {F:Nat → Prop} {w:World} {sb:Nat} {M:St} (h:StoreRep F w sb M) (l:Int) (lo hi:Edge) (hlo:lo.ok) (hhi:hi.ok) :
  Calls Tryz.prog 232 #[.pointer (some ⟨sb,0,none⟩),.int .i64 l,.agg #[.int .u8 lo.tag,.int .u32 lo.to],.agg #[.int .u8 hi.tag,.int .u32 hi.to]] w fun r w'=>
   r=.returned (.tuple #[.agg #[.int .u8 (actE0 M (makeAct M 2 l lo hi (zRest M l lo hi))).tag,.int .u32 (actE0 M (makeAct M 2 l lo hi (zRest M l lo hi))).to],.int .u8 (actErr M (makeAct M 2 l lo hi (zRest M l lo hi)))]) ∧ Upd F w w' ∧ StoreRep (Grow F w w') w' sb (actSt M (makeAct M 2 l lo hi (zRest M l lo hi))):=by
 have hn:=h.wf.n16
 have hv:=fun (W:World) (hW:Keeps w W)=>store_vars (h.keeps hW)
 have hllo:=fun (W:World) (hW:Keeps w W)=>store_leads (h.keeps hW) 2 lo (l + 1) hlo
 have hlhi:=fun (W:World) (hW:Keeps w W)=>store_leads (h.keeps hW) 2 hi (l + 1) hhi
 by_cases c1:l < 0 ∨ M.n ≤ l
 ·have ev:makeAct M 2 l lo hi (zRest M l lo hi)=.inl (⟨0,0⟩,3):=if_pos c1
  rw [ev]
  by_cases c0:l < 0
  ·exact (zmake_neg sb l M.n lo hi w hn h.pos hv c0).mono fun r w' hr=>⟨hr.1,h.stay hr.2⟩
  ·exact (zmake_big sb l M.n lo hi w hn h.pos hv (by omega) (by omega)).mono fun r w' hr=>⟨hr.1,h.stay hr.2⟩
 ·have h0:0 ≤ l:=by omega
  have h1:l < M.n:=by omega
  by_cases c2:M.leads 2 lo (l + 1)=false ∨ M.leads 2 hi (l + 1)=false
  ·have ev:makeAct M 2 l lo hi (zRest M l lo hi)=.inl (⟨0,0⟩,1):=by unfold makeAct;rw [if_neg c1,if_pos c2]
   rw [ev]
   rcases bool_cases (M.leads 2 lo (l + 1)) with b1 | b1
   ·rw [b1] at hllo
    exact (zmake_lo sb l M.n lo hi w hn h.pos hv h0 h1 hllo).mono fun r w' hr=>⟨hr.1,h.stay hr.2⟩
   ·have b2:M.leads 2 hi (l + 1)=false:=by rcases c2 with c2 | c2;rw [c2] at b1;cases b1;exact c2
    rw [b1] at hllo
    rw [b2] at hlhi
    exact (zmake_hi sb l M.n lo hi w hn h.pos hv h0 h1 hllo hlhi).mono fun r w' hr=>⟨hr.1,h.stay hr.2⟩
  ·have b1:M.leads 2 lo (l + 1)=true:=by rcases bool_cases (M.leads 2 lo (l + 1)) with b | b;exact (c2 (.inl b)).elim;exact b
   have b2:M.leads 2 hi (l + 1)=true:=by rcases bool_cases (M.leads 2 hi (l + 1)) with b | b;exact (c2 (.inr b)).elim;exact b
   have ev:makeAct M 2 l lo hi (zRest M l lo hi)=zRest M l lo hi:=by unfold makeAct;rw [if_neg c1,if_neg c2]
   rw [ev]
   rw [b1] at hllo
   rw [b2] at hlhi
   by_cases s0:hi.to=0
   ·have e1:zRest M l lo hi=.inl (lo,0):=if_pos s0
    rw [e1]
    obtain ⟨th,ta⟩:=hi
    dsimp only at s0
    subst s0
    exact (zmake_zero sb l M.n lo th w hn h.pos hv h0 h1 hllo hlhi).mono fun r w' hr=>⟨hr.1,h.stay hr.2⟩
   have hr:(⟨2,l,l,lo,hi⟩:Rec).ok:=rec_ok (by decide) h0 (by omega) ⟨h0,by omega⟩ hlo hhi
   have e1:zRest M l lo hi=.inr ⟨2,l,l,lo,hi⟩:=if_neg s0
   rw [e1]
   have hf:=fun (W:World) (hW:Keeps w W)=>zdd_found0 (h.keeps hW) ⟨2,l,l,lo,hi⟩ hr
   refine (zmake_found (fun W W1=>StoreRep (Grow F W W1) W1 sb (M.findSt ⟨2,l,l,lo,hi⟩)) sb l M.n lo hi _ _ _ w hn h.pos hv h0 h1 hllo hlhi s0 h.lt hf).mono ?_
   rintro e w' ⟨rfl,W,W1,q1,q2,q3,q4⟩
   exact ⟨rfl,q3.after h.lt q1 q2 q4⟩

theorem cbdd_make {F:Nat → Prop} {w:World} {sb:Nat} {M:St} (h:StoreRep F w sb M) (l:Int) (lo hi:Edge) (hlo:lo.ok) (hhi:hi.ok) :
  Calls Tryz.prog 233 #[.pointer (some ⟨sb,0,none⟩),.int .i64 l,.agg #[.int .u8 lo.tag,.int .u32 lo.to],.agg #[.int .u8 hi.tag,.int .u32 hi.to]] w fun r w'=>
   r=.returned (.tuple #[.agg #[.int .u8 (actE0 M (makeAct M 3 l lo hi (cRest M l lo hi))).tag,.int .u32 (actE0 M (makeAct M 3 l lo hi (cRest M l lo hi))).to],.int .u8 (actErr M (makeAct M 3 l lo hi (cRest M l lo hi)))]) ∧ Upd F w w' ∧ StoreRep (Grow F w w') w' sb (actSt M (makeAct M 3 l lo hi (cRest M l lo hi))):=by
 have hn:=h.wf.n16
 have hv:=fun (W:World) (hW:Keeps w W)=>store_vars (h.keeps hW)
 have hllo:=fun (W:World) (hW:Keeps w W)=>store_leads (h.keeps hW) 3 lo (l + 1) hlo
 have hlhi:=fun (W:World) (hW:Keeps w W)=>store_leads (h.keeps hW) 3 hi (l + 1) hhi
 by_cases c1:l < 0 ∨ M.n ≤ l
 ·have ev:makeAct M 3 l lo hi (cRest M l lo hi)=.inl (⟨0,0⟩,3):=if_pos c1
  rw [ev]
  by_cases c0:l < 0
  ·exact (cmake_neg sb l M.n lo hi w hn h.pos hv c0).mono fun r w' hr=>⟨hr.1,h.stay hr.2⟩
  ·exact (cmake_big sb l M.n lo hi w hn h.pos hv (by omega) (by omega)).mono fun r w' hr=>⟨hr.1,h.stay hr.2⟩
 ·have h0:0 ≤ l:=by omega
  have h1:l < M.n:=by omega
  by_cases c2:M.leads 3 lo (l + 1)=false ∨ M.leads 3 hi (l + 1)=false
  ·have ev:makeAct M 3 l lo hi (cRest M l lo hi)=.inl (⟨0,0⟩,1):=by unfold makeAct;rw [if_neg c1,if_pos c2]
   rw [ev]
   rcases bool_cases (M.leads 3 lo (l + 1)) with b1 | b1
   ·rw [b1] at hllo
    exact (cmake_lo sb l M.n lo hi w hn h.pos hv h0 h1 hllo).mono fun r w' hr=>⟨hr.1,h.stay hr.2⟩
   ·have b2:M.leads 3 hi (l + 1)=false:=by rcases c2 with c2 | c2;rw [c2] at b1;cases b1;exact c2
    rw [b1] at hllo
    rw [b2] at hlhi
    exact (cmake_hi sb l M.n lo hi w hn h.pos hv h0 h1 hllo hlhi).mono fun r w' hr=>⟨hr.1,h.stay hr.2⟩
  ·have b1:M.leads 3 lo (l + 1)=true:=by rcases bool_cases (M.leads 3 lo (l + 1)) with b | b;exact (c2 (.inl b)).elim;exact b
   have b2:M.leads 3 hi (l + 1)=true:=by rcases bool_cases (M.leads 3 hi (l + 1)) with b | b;exact (c2 (.inr b)).elim;exact b
   have ev:makeAct M 3 l lo hi (cRest M l lo hi)=cRest M l lo hi:=by unfold makeAct;rw [if_neg c1,if_neg c2]
   rw [ev]
   rw [b1] at hllo
   rw [b2] at hlhi
   by_cases s0:lo=hi
   ·have e1:cRest M l lo hi=.inl (lo,0):=if_pos s0
    rw [e1]
    exact (cmake_same sb l M.n lo hi w hn h.pos hv h0 h1 hllo hlhi s0).mono fun r w' hr=>⟨hr.1,h.stay hr.2⟩
   have hr:(⟨3,l,l,lo,hi⟩:Rec).ok:=rec_ok (by decide) h0 (by omega) ⟨h0,by omega⟩ hlo hhi
   have hg:=fun (W:World) (hW:Keeps w W)=>store_get (h.keeps hW) lo.to hlo.2.2
   cases hk:look M.cs lo.to with
   | none=>
    rw [hk] at hg
    have e1:cRest M l lo hi=.inr ⟨3,l,l,lo,hi⟩:=by unfold cRest;rw [if_neg s0,hk]
    rw [e1]
    have hf:=fun (W:World) (hW:Keeps w W)=>cbdd_found0 (h.keeps hW) ⟨3,l,l,lo,hi⟩ hr
    refine (cmake_none (fun W W1=>StoreRep (Grow F W W1) W1 sb (M.findSt ⟨3,l,l,lo,hi⟩)) sb l M.n lo hi Rec.zero _ _ _ w hn h.pos hv h0 h1 hllo hlhi s0 hg h.lt hf).mono ?_
    rintro e w' ⟨rfl,W,W1,q1,q2,q3,q4⟩
    exact ⟨rfl,q3.after h.lt q1 q2 q4⟩
   | some r=>
    have hok:=h.fit hk
    rw [hk] at hg
    by_cases c3:r.top=l + 1
    ·by_cases c4:r.hi=hi
     ·have e1:cRest M l lo hi=.inr ⟨3,l,r.bot,r.lo,hi⟩:=by unfold cRest;rw [if_neg s0,hk];show (if r.top=l + 1 then _ else _)=_;rw [if_pos c3,if_pos c4]
      rw [e1]
      clear hr
      have hr:(⟨3,l,r.bot,r.lo,hi⟩:Rec).ok:=rec_ok (by decide) h0 (by omega) hok.bot hok.lo hhi
      obtain ⟨rf,rt,rb,rlo,rhi⟩:=r
      dsimp only at c3 c4 hr ⊢
      subst c4
      subst c3
      have hf:=fun (W:World) (hW:Keeps w W)=>cbdd_found0 (h.keeps hW) ⟨3,l,rb,rlo,rhi⟩ hr
      refine (cmake_chain (fun W W1=>StoreRep (Grow F W W1) W1 sb (M.findSt ⟨3,l,rb,rlo,rhi⟩)) sb l M.n lo rhi ⟨rf,l + 1,rb,rlo,rhi⟩ _ _ _ w hn h.pos hv h0 h1 hllo hlhi s0 hg h.lt hf).mono ?_
      rintro e w' ⟨rfl,W,W1,q1,q2,q3,q4⟩
      exact ⟨rfl,q3.after h.lt q1 q2 q4⟩
     ·have e1:cRest M l lo hi=.inr ⟨3,l,l,lo,hi⟩:=by unfold cRest;rw [if_neg s0,hk];show (if r.top=l + 1 then _ else _)=_;rw [if_pos c3,if_neg c4]
      rw [e1]
      obtain ⟨rf,rt,rb,rlo,rhi⟩:=r
      dsimp only at c3 c4
      subst c3
      have hf:=fun (W:World) (hW:Keeps w W)=>cbdd_found0 (h.keeps hW) ⟨3,l,l,lo,hi⟩ hr
      refine (cmake_hino (fun W W1=>StoreRep (Grow F W W1) W1 sb (M.findSt ⟨3,l,l,lo,hi⟩)) sb l M.n lo hi ⟨rf,l + 1,rb,rlo,rhi⟩ _ _ _ w hn h.pos hv h0 h1 hllo hlhi s0 c4 hg h.lt hf).mono ?_
      rintro e w' ⟨rfl,W,W1,q1,q2,q3,q4⟩
      exact ⟨rfl,q3.after h.lt q1 q2 q4⟩
    ·have e1:cRest M l lo hi=.inr ⟨3,l,l,lo,hi⟩:=by unfold cRest;rw [if_neg s0,hk];show (if r.top=l + 1 then _ else _)=_;rw [if_neg c3]
     rw [e1]
     have hf:=fun (W:World) (hW:Keeps w W)=>cbdd_found0 (h.keeps hW) ⟨3,l,l,lo,hi⟩ hr
     refine (cmake_top (fun W W1=>StoreRep (Grow F W W1) W1 sb (M.findSt ⟨3,l,l,lo,hi⟩)) sb l M.n lo hi r _ _ _ w hn h.pos hv h0 h1 hllo hlhi s0 c3 hok.top.1 hok.top.2 hg h.lt hf).mono ?_
     rintro e w' ⟨rfl,W,W1,q1,q2,q3,q4⟩
     exact ⟨rfl,q3.after h.lt q1 q2 q4⟩

theorem czdd_make {F:Nat → Prop} {w:World} {sb:Nat} {M:St} (h:StoreRep F w sb M) (l:Int) (lo hi:Edge) (hlo:lo.ok) (hhi:hi.ok) :
  Calls Tryz.prog 234 #[.pointer (some ⟨sb,0,none⟩),.int .i64 l,.agg #[.int .u8 lo.tag,.int .u32 lo.to],.agg #[.int .u8 hi.tag,.int .u32 hi.to]] w fun r w'=>
   r=.returned (.tuple #[.agg #[.int .u8 (actE0 M (makeAct M 4 l lo hi (qRest M l lo hi))).tag,.int .u32 (actE0 M (makeAct M 4 l lo hi (qRest M l lo hi))).to],.int .u8 (actErr M (makeAct M 4 l lo hi (qRest M l lo hi)))]) ∧ Upd F w w' ∧ StoreRep (Grow F w w') w' sb (actSt M (makeAct M 4 l lo hi (qRest M l lo hi))):=by
 have hn:=h.wf.n16
 have hv:=fun (W:World) (hW:Keeps w W)=>store_vars (h.keeps hW)
 have hllo:=fun (W:World) (hW:Keeps w W)=>store_leads (h.keeps hW) 4 lo (l + 1) hlo
 have hlhi:=fun (W:World) (hW:Keeps w W)=>store_leads (h.keeps hW) 4 hi (l + 1) hhi
 by_cases c1:l < 0 ∨ M.n ≤ l
 ·have ev:makeAct M 4 l lo hi (qRest M l lo hi)=.inl (⟨0,0⟩,3):=if_pos c1
  rw [ev]
  by_cases c0:l < 0
  ·exact (qmake_neg sb l M.n lo hi w hn h.pos hv c0).mono fun r w' hr=>⟨hr.1,h.stay hr.2⟩
  ·exact (qmake_big sb l M.n lo hi w hn h.pos hv (by omega) (by omega)).mono fun r w' hr=>⟨hr.1,h.stay hr.2⟩
 ·have h0:0 ≤ l:=by omega
  have h1:l < M.n:=by omega
  by_cases c2:M.leads 4 lo (l + 1)=false ∨ M.leads 4 hi (l + 1)=false
  ·have ev:makeAct M 4 l lo hi (qRest M l lo hi)=.inl (⟨0,0⟩,1):=by unfold makeAct;rw [if_neg c1,if_pos c2]
   rw [ev]
   rcases bool_cases (M.leads 4 lo (l + 1)) with b1 | b1
   ·rw [b1] at hllo
    exact (qmake_lo sb l M.n lo hi w hn h.pos hv h0 h1 hllo).mono fun r w' hr=>⟨hr.1,h.stay hr.2⟩
   ·have b2:M.leads 4 hi (l + 1)=false:=by rcases c2 with c2 | c2;rw [c2] at b1;cases b1;exact c2
    rw [b1] at hllo
    rw [b2] at hlhi
    exact (qmake_hi sb l M.n lo hi w hn h.pos hv h0 h1 hllo hlhi).mono fun r w' hr=>⟨hr.1,h.stay hr.2⟩
  ·have b1:M.leads 4 lo (l + 1)=true:=by rcases bool_cases (M.leads 4 lo (l + 1)) with b | b;exact (c2 (.inl b)).elim;exact b
   have b2:M.leads 4 hi (l + 1)=true:=by rcases bool_cases (M.leads 4 hi (l + 1)) with b | b;exact (c2 (.inr b)).elim;exact b
   have ev:makeAct M 4 l lo hi (qRest M l lo hi)=qRest M l lo hi:=by unfold makeAct;rw [if_neg c1,if_neg c2]
   rw [ev]
   rw [b1] at hllo
   rw [b2] at hlhi
   by_cases s0:hi.to=0
   ·have e1:qRest M l lo hi=.inl (lo,0):=if_pos s0
    rw [e1]
    obtain ⟨th,ta⟩:=hi
    dsimp only at s0
    subst s0
    exact (qmake_zero sb l M.n lo th w hn h.pos hv h0 h1 hllo hlhi).mono fun r w' hr=>⟨hr.1,h.stay hr.2⟩
   have hr:(⟨4,l,l,lo,hi⟩:Rec).ok:=rec_ok (by decide) h0 (by omega) ⟨h0,by omega⟩ hlo hhi
   have hg:=fun (W:World) (hW:Keeps w W)=>store_get (h.keeps hW) lo.to hlo.2.2
   cases hk:look M.cs lo.to with
   | none=>
    rw [hk] at hg
    have e1:qRest M l lo hi=.inr ⟨4,l,l,lo,hi⟩:=by unfold qRest;rw [if_neg s0,hk]
    rw [e1]
    have hf:=fun (W:World) (hW:Keeps w W)=>czdd_found0 (h.keeps hW) ⟨4,l,l,lo,hi⟩ hr
    refine (qmake_none (fun W W1=>StoreRep (Grow F W W1) W1 sb (M.findSt ⟨4,l,l,lo,hi⟩)) sb l M.n lo hi Rec.zero _ _ _ w hn h.pos hv h0 h1 hllo hlhi s0 hg h.lt hf).mono ?_
    rintro e w' ⟨rfl,W,W1,q1,q2,q3,q4⟩
    exact ⟨rfl,q3.after h.lt q1 q2 q4⟩
   | some r=>
    have hok:=h.fit hk
    rw [hk] at hg
    by_cases c4:lo=hi
    ·by_cases c3:r.top=l + 1
     ·have e1:qRest M l lo hi=.inr ⟨4,l,r.bot,r.lo,r.hi⟩:=by unfold qRest;rw [if_neg s0,hk];show (if lo=hi then _ else _)=_;rw [if_pos c4,if_pos c3]
      rw [e1]
      clear hr
      have hr:(⟨4,l,r.bot,r.lo,r.hi⟩:Rec).ok:=rec_ok (by decide) h0 (by omega) hok.bot hok.lo hok.hi
      obtain ⟨rf,rt,rb,rlo,rhi⟩:=r
      dsimp only at c3 c4 hr ⊢
      subst c4
      subst c3
      have hf:=fun (W:World) (hW:Keeps w W)=>czdd_found0 (h.keeps hW) ⟨4,l,rb,rlo,rhi⟩ hr
      refine (qmake_chain (fun W W1=>StoreRep (Grow F W W1) W1 sb (M.findSt ⟨4,l,rb,rlo,rhi⟩)) sb l M.n lo ⟨rf,l + 1,rb,rlo,rhi⟩ _ _ _ w hn h.pos hv h0 h1 hllo hlhi s0 hg h.lt hf).mono ?_
      rintro e w' ⟨rfl,W,W1,q1,q2,q3,q4⟩
      exact ⟨rfl,q3.after h.lt q1 q2 q4⟩
     ·have e1:qRest M l lo hi=.inr ⟨4,l,l,lo,hi⟩:=by unfold qRest;rw [if_neg s0,hk];show (if lo=hi then _ else _)=_;rw [if_pos c4,if_neg c3]
      rw [e1]
      subst c4
      have hf:=fun (W:World) (hW:Keeps w W)=>czdd_found0 (h.keeps hW) ⟨4,l,l,lo,lo⟩ hr
      refine (qmake_top (fun W W1=>StoreRep (Grow F W W1) W1 sb (M.findSt ⟨4,l,l,lo,lo⟩)) sb l M.n lo r _ _ _ w hn h.pos hv h0 h1 hllo hlhi s0 c3 hok.top.1 hok.top.2 hg h.lt hf).mono ?_
      rintro e w' ⟨rfl,W,W1,q1,q2,q3,q4⟩
      exact ⟨rfl,q3.after h.lt q1 q2 q4⟩
    ·have e1:qRest M l lo hi=.inr ⟨4,l,l,lo,hi⟩:=by unfold qRest;rw [if_neg s0,hk];show (if lo=hi then _ else _)=_;rw [if_neg c4]
     rw [e1]
     have hf:=fun (W:World) (hW:Keeps w W)=>czdd_found0 (h.keeps hW) ⟨4,l,l,lo,hi⟩ hr
     refine (qmake_lono (fun W W1=>StoreRep (Grow F W W1) W1 sb (M.findSt ⟨4,l,l,lo,hi⟩)) sb l M.n lo hi r _ _ _ w hn h.pos hv h0 h1 hllo hlhi s0 c4 hok.top.1 hok.top.2 hg h.lt hf).mono ?_
     rintro e w' ⟨rfl,W,W1,q1,q2,q3,q4⟩
     exact ⟨rfl,q3.after h.lt q1 q2 q4⟩

end Go.Proofs.YtiifimnpmbfihaaGreat
