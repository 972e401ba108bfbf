/-
  Make of form 1 over the state: the program's and the document's (printed by wip/mk_mstore.py).
-/
import Derived.Test.YtpgcbmbnognieaaGreatPMakeBZ
import Derived.Test.YtpgcbmbnognieaaGreatPMakeC
import Derived.Test.YtpgcbmbnognieaaGreatPMakeQ
import Derived.Test.YtpgcbmbnognieaaGreatPNatD
namespace Go.Proofs.YtpgcbmbnognieaaGreat
set_option linter.unusedSimpArgs false
set_option linter.unusedVariables false
set_option maxHeartbeats 600000
open Go.RowKit

theorem bdd_make {F:Nat → Prop} {w:World} {sb:Nat} {M:St} (h:StoreRep F w sb M) (l:Int) (lo hi:Edge) (hlo:lo.ok) (hhi:hi.ok) :
  Calls Tryz.prog 169 #[.pointer (some ⟨sb,0,none⟩),.int .i64 l,.agg #[.int .u8 lo.tag,.int .u32 lo.to],.agg #[.int .u8 hi.tag,.int .u32 hi.to]] w fun r w'=>
   r=.returned (.tuple #[.agg #[.int .u8 (actE0 M (makeAct M 1 l lo hi (bRest M l lo hi))).tag,.int .u32 (actE0 M (makeAct M 1 l lo hi (bRest M l lo hi))).to],.int .u8 (actErr M (makeAct M 1 l lo hi (bRest M l lo hi)))]) ∧ Upd F w w' ∧ StoreRep (Grow F w w') w' sb (actSt M (makeAct M 1 l lo hi (bRest M l lo hi))):=by
 have hn:=h.wf.n16
 have hv:=fun (W:World) (hW:Keeps w W)=>store_vars (h.keeps hW)
 have hllo:=fun (W:World) (hW:Keeps w W)=>store_leads (h.keeps hW) 1 lo (l + 1) hlo
 have hlhi:=fun (W:World) (hW:Keeps w W)=>store_leads (h.keeps hW) 1 hi (l + 1) hhi
 by_cases c1:l < 0 ∨ M.n ≤ l
 ·have ev:makeAct M 1 l lo hi (bRest M l lo hi)=.inl (⟨0,0⟩,3):=if_pos c1
  rw [ev]
  by_cases c0:l < 0
  ·exact (bmake_neg sb l M.n lo hi w hn h.pos hv c0).mono fun r w' hr=>⟨hr.1,h.stay hr.2⟩
  ·exact (bmake_big sb l M.n lo hi w hn h.pos hv (by omega) (by omega)).mono fun r w' hr=>⟨hr.1,h.stay hr.2⟩
 ·have h0:0 ≤ l:=by omega
  have h1:l < M.n:=by omega
  by_cases c2:M.leads 1 lo (l + 1)=false ∨ M.leads 1 hi (l + 1)=false
  ·have ev:makeAct M 1 l lo hi (bRest M l lo hi)=.inl (⟨0,0⟩,1):=by unfold makeAct;rw [if_neg c1,if_pos c2]
   rw [ev]
   rcases bool_cases (M.leads 1 lo (l + 1)) with b1 | b1
   ·rw [b1] at hllo
    exact (bmake_lo sb l M.n lo hi w hn h.pos hv h0 h1 hllo).mono fun r w' hr=>⟨hr.1,h.stay hr.2⟩
   ·have b2:M.leads 1 hi (l + 1)=false:=by rcases c2 with c2 | c2;rw [c2] at b1;cases b1;exact c2
    rw [b1] at hllo
    rw [b2] at hlhi
    exact (bmake_hi sb l M.n lo hi w hn h.pos hv h0 h1 hllo hlhi).mono fun r w' hr=>⟨hr.1,h.stay hr.2⟩
  ·have b1:M.leads 1 lo (l + 1)=true:=by rcases bool_cases (M.leads 1 lo (l + 1)) with b | b;exact (c2 (.inl b)).elim;exact b
   have b2:M.leads 1 hi (l + 1)=true:=by rcases bool_cases (M.leads 1 hi (l + 1)) with b | b;exact (c2 (.inr b)).elim;exact b
   have ev:makeAct M 1 l lo hi (bRest M l lo hi)=bRest M l lo hi:=by unfold makeAct;rw [if_neg c1,if_neg c2]
   rw [ev]
   rw [b1] at hllo
   rw [b2] at hlhi
   by_cases s0:lo=hi
   ·have e1:bRest M l lo hi=.inl (lo,0):=if_pos s0
    rw [e1]
    exact (bmake_same sb l M.n lo hi w hn h.pos hv h0 h1 hllo hlhi s0).mono fun r w' hr=>⟨hr.1,h.stay hr.2⟩
   have hr:(⟨1,l,l,lo,hi⟩:Rec).ok:=rec_ok (by decide) h0 (by omega) ⟨h0,by omega⟩ hlo hhi
   have e1:bRest M l lo hi=.inr ⟨1,l,l,lo,hi⟩:=if_neg s0
   rw [e1]
   have hf:=fun (W:World) (hW:Keeps w W)=>bdd_found0 (h.keeps hW) ⟨1,l,l,lo,hi⟩ hr
   refine (bmake_found (fun W W1=>StoreRep (Grow F W W1) W1 sb (M.findSt ⟨1,l,l,lo,hi⟩)) sb l M.n lo hi _ _ _ w hn h.pos hv h0 h1 hllo hlhi s0 h.lt hf).mono ?_
   rintro e w' ⟨rfl,W,W1,q1,q2,q3,q4⟩
   exact ⟨rfl,q3.after h.lt q1 q2 q4⟩

theorem zdd_make {F:Nat → Prop} {w:World} {sb:Nat} {M:St} (h:StoreRep F w sb M) (l:Int) (lo hi:Edge) (hlo:lo.ok) (hhi:hi.ok) :
  Calls Tryz.prog 170 #[.pointer (some ⟨sb,0,none⟩),.int .i64 l,.agg #[.int .u8 lo.tag,.int .u32 lo.to],.agg #[.int .u8 hi.tag,.int .u32 hi.to]] w fun r w'=>
   r=.returned (.tuple #[.agg #[.int .u8 (actE0 M (makeAct M 2 l lo hi (zRest M l lo hi))).tag,.int .u32 (actE0 M (makeAct M 2 l lo hi (zRest M l lo hi))).to],.int .u8 (actErr M (makeAct M 2 l lo hi (zRest M l lo hi)))]) ∧ Upd F w w' ∧ StoreRep (Grow F w w') w' sb (actSt M (makeAct M 2 l lo hi (zRest M l lo hi))):=by
 have hn:=h.wf.n16
 have hv:=fun (W:World) (hW:Keeps w W)=>store_vars (h.keeps hW)
 have hllo:=fun (W:World) (hW:Keeps w W)=>store_leads (h.keeps hW) 2 lo (l + 1) hlo
 have hlhi:=fun (W:World) (hW:Keeps w W)=>store_leads (h.keeps hW) 2 hi (l + 1) hhi
 by_cases c1:l < 0 ∨ M.n ≤ l
 ·have ev:makeAct M 2 l lo hi (zRest M l lo hi)=.inl (⟨0,0⟩,3):=if_pos c1
  rw [ev]
  by_cases c0:l < 0
  ·exact (zmake_neg sb l M.n lo hi w hn h.pos hv c0).mono fun r w' hr=>⟨hr.1,h.stay hr.2⟩
  ·exact (zmake_big sb l M.n lo hi w hn h.pos hv (by omega) (by omega)).mono fun r w' hr=>⟨hr.1,h.stay hr.2⟩
 ·have h0:0 ≤ l:=by omega
  have h1:l < M.n:=by omega
  by_cases c2:M.leads 2 lo (l + 1)=false ∨ M.leads 2 hi (l + 1)=false
  ·have ev:makeAct M 2 l lo hi (zRest M l lo hi)=.inl (⟨0,0⟩,1):=by unfold makeAct;rw [if_neg c1,if_pos c2]
   rw [ev]
   rcases bool_cases (M.leads 2 lo (l + 1)) with b1 | b1
   ·rw [b1] at hllo
    exact (zmake_lo sb l M.n lo hi w hn h.pos hv h0 h1 hllo).mono fun r w' hr=>⟨hr.1,h.stay hr.2⟩
   ·have b2:M.leads 2 hi (l + 1)=false:=by rcases c2 with c2 | c2;rw [c2] at b1;cases b1;exact c2
    rw [b1] at hllo
    rw [b2] at hlhi
    exact (zmake_hi sb l M.n lo hi w hn h.pos hv h0 h1 hllo hlhi).mono fun r w' hr=>⟨hr.1,h.stay hr.2⟩
  ·have b1:M.leads 2 lo (l + 1)=true:=by rcases bool_cases (M.leads 2 lo (l + 1)) with b | b;exact (c2 (.inl b)).elim;exact b
   have b2:M.leads 2 hi (l + 1)=true:=by rcases bool_cases (M.leads 2 hi (l + 1)) with b | b;exact (c2 (.inr b)).elim;exact b
   have ev:makeAct M 2 l lo hi (zRest M l lo hi)=zRest M l lo hi:=by unfold makeAct;rw [if_neg c1,if_neg c2]
   rw [ev]
   rw [b1] at hllo
   rw [b2] at hlhi
   by_cases s0:hi.to=0
   ·have e1:zRest M l lo hi=.inl (lo,0):=if_pos s0
    rw [e1]
    obtain ⟨th,ta⟩:=hi
    dsimp only at s0
    subst s0
    exact (zmake_zero sb l M.n lo th w hn h.pos hv h0 h1 hllo hlhi).mono fun r w' hr=>⟨hr.1,h.stay hr.2⟩
   have hr:(⟨2,l,l,lo,hi⟩:Rec).ok:=rec_ok (by decide) h0 (by omega) ⟨h0,by omega⟩ hlo hhi
   have e1:zRest M l lo hi=.inr ⟨2,l,l,lo,hi⟩:=if_neg s0
   rw [e1]
   have hf:=fun (W:World) (hW:Keeps w W)=>zdd_found0 (h.keeps hW) ⟨2,l,l,lo,hi⟩ hr
   refine (zmake_found (fun W W1=>StoreRep (Grow F W W1) W1 sb (M.findSt ⟨2,l,l,lo,hi⟩)) sb l M.n lo hi _ _ _ w hn h.pos hv h0 h1 hllo hlhi s0 h.lt hf).mono ?_
   rintro e w' ⟨rfl,W,W1,q1,q2,q3,q4⟩
   exact ⟨rfl,q3.after h.lt q1 q2 q4⟩

theorem cbdd_make {F:Nat → Prop} {w:World} {sb:Nat} {M:St} (h:StoreRep F w sb M) (l:Int) (lo hi:Edge) (hlo:lo.ok) (hhi:hi.ok) :
  Calls Tryz.prog 171 #[.pointer (some ⟨sb,0,none⟩),.int .i64 l,.agg #[.int .u8 lo.tag,.int .u32 lo.to],.agg #[.int .u8 hi.tag,.int .u32 hi.to]] w fun r w'=>
   r=.returned (.tuple #[.agg #[.int .u8 (actE0 M (makeAct M 3 l lo hi (cRest M l lo hi))).tag,.int .u32 (actE0 M (makeAct M 3 l lo hi (cRest M l lo hi))).to],.int .u8 (actErr M (makeAct M 3 l lo hi (cRest M l lo hi)))]) ∧ Upd F w w' ∧ StoreRep (Grow F w w') w' sb (actSt M (makeAct M 3 l lo hi (cRest M l lo hi))):=by
 have hn:=h.wf.n16
 have hv:=fun (W:World) (hW:Keeps w W)=>store_vars (h.keeps hW)
 have hllo:=fun (W:World) (hW:Keeps w W)=>store_leads (h.keeps hW) 3 lo (l + 1) hlo
 have hlhi:=fun (W:World) (hW:Keeps w W)=>store_leads (h.keeps hW) 3 hi (l + 1) hhi
 by_cases c1:l < 0 ∨ M.n ≤ l
 ·have ev:makeAct M 3 l lo hi (cRest M l lo hi)=.inl (⟨0,0⟩,3):=if_pos c1
  rw [ev]
  by_cases c0:l < 0
  ·exact (cmake_neg sb l M.n lo hi w hn h.pos hv c0).mono fun r w' hr=>⟨hr.1,h.stay hr.2⟩
  ·exact (cmake_big sb l M.n lo hi w hn h.pos hv (by omega) (by omega)).mono fun r w' hr=>⟨hr.1,h.stay hr.2⟩
 ·have h0:0 ≤ l:=by omega
  have h1:l < M.n:=by omega
  by_cases c2:M.leads 3 lo (l + 1)=false ∨ M.leads 3 hi (l + 1)=false
  ·have ev:makeAct M 3 l lo hi (cRest M l lo hi)=.inl (⟨0,0⟩,1):=by unfold makeAct;rw [if_neg c1,if_pos c2]
   rw [ev]
   rcases bool_cases (M.leads 3 lo (l + 1)) with b1 | b1
   ·rw [b1] at hllo
    exact (cmake_lo sb l M.n lo hi w hn h.pos hv h0 h1 hllo).mono fun r w' hr=>⟨hr.1,h.stay hr.2⟩
   ·have b2:M.leads 3 hi (l + 1)=false:=by rcases c2 with c2 | c2;rw [c2] at b1;cases b1;exact c2
    rw [b1] at hllo
    rw [b2] at hlhi
    exact (cmake_hi sb l M.n lo hi w hn h.pos hv h0 h1 hllo hlhi).mono fun r w' hr=>⟨hr.1,h.stay hr.2⟩
  ·have b1:M.leads 3 lo (l + 1)=true:=by rcases bool_cases (M.leads 3 lo (l + 1)) with b | b;exact (c2 (.inl b)).elim;exact b
   have b2:M.leads 3 hi (l + 1)=true:=by rcases bool_cases (M.leads 3 hi (l + 1)) with b | b;exact (c2 (.inr b)).elim;exact b
   have ev:makeAct M 3 l lo hi (cRest M l lo hi)=cRest M l lo hi:=by unfold makeAct;rw [if_neg c1,if_neg c2]
   rw [ev]
   rw [b1] at hllo
   rw [b2] at hlhi
   by_cases s0:lo=hi
   ·have e1:cRest M l lo hi=.inl (lo,0):=if_pos s0
    rw [e1]
    exact (cmake_same sb l M.n lo hi w hn h.pos hv h0 h1 hllo hlhi s0).mono fun r w' hr=>⟨hr.1,h.stay hr.2⟩
   have hr:(⟨3,l,l,lo,hi⟩:Rec).ok:=rec_ok (by decide) h0 (by omega) ⟨h0,by omega⟩ hlo hhi
   have hg:=fun (W:World) (hW:Keeps w W)=>store_get (h.keeps hW) lo.to hlo.2.2
   cases hk:look M.cs lo.to with
   | none=>
    rw [hk] at hg
    have e1:cRest M l lo hi=.inr ⟨3,l,l,lo,hi⟩:=by unfold cRest;rw [if_neg s0,hk]
    rw [e1]
    have hf:=fun (W:World) (hW:Keeps w W)=>cbdd_found0 (h.keeps hW) ⟨3,l,l,lo,hi⟩ hr
    refine (cmake_none (fun W W1=>StoreRep (Grow F W W1) W1 sb (M.findSt ⟨3,l,l,lo,hi⟩)) sb l M.n lo hi Rec.zero _ _ _ w hn h.pos hv h0 h1 hllo hlhi s0 hg h.lt hf).mono ?_
    rintro e w' ⟨rfl,W,W1,q1,q2,q3,q4⟩
    exact ⟨rfl,q3.after h.lt q1 q2 q4⟩
   | some r=>
    have hok:=h.fit hk
    rw [hk] at hg
    by_cases c3:r.top=l + 1
    ·by_cases c4:r.hi=hi
     ·have e1:cRest M l lo hi=.inr ⟨3,l,r.bot,r.lo,hi⟩:=by unfold cRest;rw [if_neg s0,hk];show (if r.top=l + 1 then _ else _)=_;rw [if_pos c3,if_pos c4]
      rw [e1]
      clear hr
      have hr:(⟨3,l,r.bot,r.lo,hi⟩:Rec).ok:=rec_ok (by decide) h0 (by omega) hok.bot hok.lo hhi
      obtain ⟨rf,rt,rb,rlo,rhi⟩:=r
      dsimp only at c3 c4 hr ⊢
      subst c4
      subst c3
      have hf:=fun (W:World) (hW:Keeps w W)=>cbdd_found0 (h.keeps hW) ⟨3,l,rb,rlo,rhi⟩ hr
      refine (cmake_chain (fun W W1=>StoreRep (Grow F W W1) W1 sb (M.findSt ⟨3,l,rb,rlo,rhi⟩)) sb l M.n lo rhi ⟨rf,l + 1,rb,rlo,rhi⟩ _ _ _ w hn h.pos hv h0 h1 hllo hlhi s0 hg h.lt hf).mono ?_
      rintro e w' ⟨rfl,W,W1,q1,q2,q3,q4⟩
      exact ⟨rfl,q3.after h.lt q1 q2 q4⟩
     ·have e1:cRest M l lo hi=.inr ⟨3,l,l,lo,hi⟩:=by unfold cRest;rw [if_neg s0,hk];show (if r.top=l + 1 then _ else _)=_;rw [if_pos c3,if_neg c4]
      rw [e1]
      obtain ⟨rf,rt,rb,rlo,rhi⟩:=r
      dsimp only at c3 c4
      subst c3
      have hf:=fun (W:World) (hW:Keeps w W)=>cbdd_found0 (h.keeps hW) ⟨3,l,l,lo,hi⟩ hr
      refine (cmake_hino (fun W W1=>StoreRep (Grow F W W1) W1 sb (M.findSt ⟨3,l,l,lo,hi⟩)) sb l M.n lo hi ⟨rf,l + 1,rb,rlo,rhi⟩ _ _ _ w hn h.pos hv h0 h1 hllo hlhi s0 c4 hg h.lt hf).mono ?_
      rintro e w' ⟨rfl,W,W1,q1,q2,q3,q4⟩
      exact ⟨rfl,q3.after h.lt q1 q2 q4⟩
    ·have e1:cRest M l lo hi=.inr ⟨3,l,l,lo,hi⟩:=by unfold cRest;rw [if_neg s0,hk];show (if r.top=l + 1 then _ else _)=_;rw [if_neg c3]
     rw [e1]
     have hf:=fun (W:World) (hW:Keeps w W)=>cbdd_found0 (h.keeps hW) ⟨3,l,l,lo,hi⟩ hr
     refine (cmake_top (fun W W1=>StoreRep (Grow F W W1) W1 sb (M.findSt ⟨3,l,l,lo,hi⟩)) sb l M.n lo hi r _ _ _ w hn h.pos hv h0 h1 hllo hlhi s0 c3 hok.top.1 hok.top.2 hg h.lt hf).mono ?_
     rintro e w' ⟨rfl,W,W1,q1,q2,q3,q4⟩
     exact ⟨rfl,q3.after h.lt q1 q2 q4⟩

theorem czdd_make {F:Nat → Prop} {w:World} {sb:Nat} {M:St} (h:StoreRep F w sb M) (l:Int) (lo hi:Edge) (hlo:lo.ok) (hhi:hi.ok) :
  Calls Tryz.prog 172 #[.pointer (some ⟨sb,0,none⟩),.int .i64 l,.agg #[.int .u8 lo.tag,.int .u32 lo.to],.agg #[.int .u8 hi.tag,.int .u32 hi.to]] w fun r w'=>
   r=.returned (.tuple #[.agg #[.int .u8 (actE0 M (makeAct M 4 l lo hi (qRest M l lo hi))).tag,.int .u32 (actE0 M (makeAct M 4 l lo hi (qRest M l lo hi))).to],.int .u8 (actErr M (makeAct M 4 l lo hi (qRest M l lo hi)))]) ∧ Upd F w w' ∧ StoreRep (Grow F w w') w' sb (actSt M (makeAct M 4 l lo hi (qRest M l lo hi))):=by
 have hn:=h.wf.n16
 have hv:=fun (W:World) (hW:Keeps w W)=>store_vars (h.keeps hW)
 have hllo:=fun (W:World) (hW:Keeps w W)=>store_leads (h.keeps hW) 4 lo (l + 1) hlo
 have hlhi:=fun (W:World) (hW:Keeps w W)=>store_leads (h.keeps hW) 4 hi (l + 1) hhi
 by_cases c1:l < 0 ∨ M.n ≤ l
 ·have ev:makeAct M 4 l lo hi (qRest M l lo hi)=.inl (⟨0,0⟩,3):=if_pos c1
  rw [ev]
  by_cases c0:l < 0
  ·exact (qmake_neg sb l M.n lo hi w hn h.pos hv c0).mono fun r w' hr=>⟨hr.1,h.stay hr.2⟩
  ·exact (qmake_big sb l M.n lo hi w hn h.pos hv (by omega) (by omega)).mono fun r w' hr=>⟨hr.1,h.stay hr.2⟩
 ·have h0:0 ≤ l:=by omega
  have h1:l < M.n:=by omega
  by_cases c2:M.leads 4 lo (l + 1)=false ∨ M.leads 4 hi (l + 1)=false
  ·have ev:makeAct M 4 l lo hi (qRest M l lo hi)=.inl (⟨0,0⟩,1):=by unfold makeAct;rw [if_neg c1,if_pos c2]
   rw [ev]
   rcases bool_cases (M.leads 4 lo (l + 1)) with b1 | b1
   ·rw [b1] at hllo
    exact (qmake_lo sb l M.n lo hi w hn h.pos hv h0 h1 hllo).mono fun r w' hr=>⟨hr.1,h.stay hr.2⟩
   ·have b2:M.leads 4 hi (l + 1)=false:=by rcases c2 with c2 | c2;rw [c2] at b1;cases b1;exact c2
    rw [b1] at hllo
    rw [b2] at hlhi
    exact (qmake_hi sb l M.n lo hi w hn h.pos hv h0 h1 hllo hlhi).mono fun r w' hr=>⟨hr.1,h.stay hr.2⟩
  ·have b1:M.leads 4 lo (l + 1)=true:=by rcases bool_cases (M.leads 4 lo (l + 1)) with b | b;exact (c2 (.inl b)).elim;exact b
   have b2:M.leads 4 hi (l + 1)=true:=by rcases bool_cases (M.leads 4 hi (l + 1)) with b | b;exact (c2 (.inr b)).elim;exact b
   have ev:makeAct M 4 l lo hi (qRest M l lo hi)=qRest M l lo hi:=by unfold makeAct;rw [if_neg c1,if_neg c2]
   rw [ev]
   rw [b1] at hllo
   rw [b2] at hlhi
   by_cases s0:hi.to=0
   ·have e1:qRest M l lo hi=.inl (lo,0):=if_pos s0
    rw [e1]
    obtain ⟨th,ta⟩:=hi
    dsimp only at s0
    subst s0
    exact (qmake_zero sb l M.n lo th w hn h.pos hv h0 h1 hllo hlhi).mono fun r w' hr=>⟨hr.1,h.stay hr.2⟩
   have hr:(⟨4,l,l,lo,hi⟩:Rec).ok:=rec_ok (by decide) h0 (by omega) ⟨h0,by omega⟩ hlo hhi
   have hg:=fun (W:World) (hW:Keeps w W)=>store_get (h.keeps hW) lo.to hlo.2.2
   cases hk:look M.cs lo.to with
   | none=>
    rw [hk] at hg
    have e1:qRest M l lo hi=.inr ⟨4,l,l,lo,hi⟩:=by unfold qRest;rw [if_neg s0,hk]
    rw [e1]
    have hf:=fun (W:World) (hW:Keeps w W)=>czdd_found0 (h.keeps hW) ⟨4,l,l,lo,hi⟩ hr
    refine (qmake_none (fun W W1=>StoreRep (Grow F W W1) W1 sb (M.findSt ⟨4,l,l,lo,hi⟩)) sb l M.n lo hi Rec.zero _ _ _ w hn h.pos hv h0 h1 hllo hlhi s0 hg h.lt hf).mono ?_
    rintro e w' ⟨rfl,W,W1,q1,q2,q3,q4⟩
    exact ⟨rfl,q3.after h.lt q1 q2 q4⟩
   | some r=>
    have hok:=h.fit hk
    rw [hk] at hg
    by_cases c4:lo=hi
    ·by_cases c3:r.top=l + 1
     ·have e1:qRest M l lo hi=.inr ⟨4,l,r.bot,r.lo,r.hi⟩:=by unfold qRest;rw [if_neg s0,hk];show (if lo=hi then _ else _)=_;rw [if_pos c4,if_pos c3]
      rw [e1]
      clear hr
      have hr:(⟨4,l,r.bot,r.lo,r.hi⟩:Rec).ok:=rec_ok (by decide) h0 (by omega) hok.bot hok.lo hok.hi
      obtain ⟨rf,rt,rb,rlo,rhi⟩:=r
      dsimp only at c3 c4 hr ⊢
      subst c4
      subst c3
      have hf:=fun (W:World) (hW:Keeps w W)=>czdd_found0 (h.keeps hW) ⟨4,l,rb,rlo,rhi⟩ hr
      refine (qmake_chain (fun W W1=>StoreRep (Grow F W W1) W1 sb (M.findSt ⟨4,l,rb,rlo,rhi⟩)) sb l M.n lo ⟨rf,l + 1,rb,rlo,rhi⟩ _ _ _ w hn h.pos hv h0 h1 hllo hlhi s0 hg h.lt hf).mono ?_
      rintro e w' ⟨rfl,W,W1,q1,q2,q3,q4⟩
      exact ⟨rfl,q3.after h.lt q1 q2 q4⟩
     ·have e1:qRest M l lo hi=.inr ⟨4,l,l,lo,hi⟩:=by unfold qRest;rw [if_neg s0,hk];show (if lo=hi then _ else _)=_;rw [if_pos c4,if_neg c3]
      rw [e1]
      subst c4
      have hf:=fun (W:World) (hW:Keeps w W)=>czdd_found0 (h.keeps hW) ⟨4,l,l,lo,lo⟩ hr
      refine (qmake_top (fun W W1=>StoreRep (Grow F W W1) W1 sb (M.findSt ⟨4,l,l,lo,lo⟩)) sb l M.n lo r _ _ _ w hn h.pos hv h0 h1 hllo hlhi s0 c3 hok.top.1 hok.top.2 hg h.lt hf).mono ?_
      rintro e w' ⟨rfl,W,W1,q1,q2,q3,q4⟩
      exact ⟨rfl,q3.after h.lt q1 q2 q4⟩
    ·have e1:qRest M l lo hi=.inr ⟨4,l,l,lo,hi⟩:=by unfold qRest;rw [if_neg s0,hk];show (if lo=hi then _ else _)=_;rw [if_neg c4]
     rw [e1]
     have hf:=fun (W:World) (hW:Keeps w W)=>czdd_found0 (h.keeps hW) ⟨4,l,l,lo,hi⟩ hr
     refine (qmake_lono (fun W W1=>StoreRep (Grow F W W1) W1 sb (M.findSt ⟨4,l,l,lo,hi⟩)) sb l M.n lo hi r _ _ _ w hn h.pos hv h0 h1 hllo hlhi s0 c4 hok.top.1 hok.top.2 hg h.lt hf).mono ?_
     rintro e w' ⟨rfl,W,W1,q1,q2,q3,q4⟩
     exact ⟨rfl,q3.after h.lt q1 q2 q4⟩

end Go.Proofs.YtpgcbmbnognieaaGreat
