/-
  View of form 1 over the state: the program's and the document's (printed by wip/mk_vstore.py).
-/
import Derived.Test.YtpgcbmbnognieaaGreatPViewBZ
import Derived.Test.YtpgcbmbnognieaaGreatPViewC
import Derived.Test.YtpgcbmbnognieaaGreatPViewQ
import Derived.Test.YtpgcbmbnognieaaGreatPViewT
namespace Go.Proofs.YtpgcbmbnognieaaGreat
set_option maxRecDepth 1000000
set_option maxHeartbeats 8000000
set_option linter.unusedSimpArgs false
set_option linter.unusedVariables false
open Go.RowKit

theorem bdd_view {F:Nat→Prop}{w:World}{sb:Nat}{M:St}(h:StoreRep F w sb M)(e:Edge)(l:Int)(he:e.ok) :
  Calls Tryz.prog 294 #[.pointer (some ⟨sb,0,none⟩),.agg #[.int .u8 e.tag,.int .u32 e.to],.int .i64 l] w fun r w'=>
   r=.returned (.tuple #[.agg #[.int .u8 (vLo M (viewAct M 1 e l)).tag,.int .u32 (vLo M (viewAct M 1 e l)).to],.agg #[.int .u8 (vHi M 1 (viewAct M 1 e l)).tag,.int .u32 (vHi M 1 (viewAct M 1 e l)).to],.int .u8 (vErr M (viewAct M 1 e l))])∧Upd F w w'∧StoreRep (Grow F w w') w' sb (vSt M (viewAct M 1 e l)):=by
 have hn:=h.wf.n16
 have hv:=fun(W:World) (hW:Keeps w W)=>store_vars (h.keeps hW)
 have hg:=fun(W:World) (hW:Keeps w W)=>store_get (h.keeps hW) e.to he.2.2
 have hl:=fun(W:World) (hW:Keeps w W)=>store_leads (h.keeps hW) 1 e l he
 by_cases c1:l<0∨M.n≤l
 ·have ev:viewAct M 1 e l=.inl (⟨0,0⟩,⟨0,0⟩,3):=if_pos c1
  rw [ev]
  by_cases c0:l<0
  ·exact(bview_neg sb l M.n e w hn h.pos hv c0).mono fun r w' hr=>⟨hr.1,h.stay hr.2⟩
  ·exact(bview_big sb l M.n e w hn h.pos hv (by omega) (by omega)).mono fun r w' hr=>⟨hr.1,h.stay hr.2⟩
 ·have h0:0≤l:=by omega
  have h1:l<M.n:=by omega
  rcases bool_cases (M.leads 1 e l) with b|b
  ·have ev:viewAct M 1 e l=.inl (⟨0,0⟩,⟨0,0⟩,1):=by unfold viewAct;rw [if_neg c1,if_pos b]
   rw [ev]
   rw [b] at hl
   exact(bview_no sb l M.n e w hn h.pos hv h0 h1 hl).mono fun r w' hr=>⟨hr.1,h.stay hr.2⟩
  ·have nb:¬M.leads 1 e l=false:=by rw [b];simp
   rw [b] at hl
   have nt:¬((1:Int)=5∧(e.to=0∨l<e.tag)):=by omega
   have evo:vOut 1 l e=(e,e,0):=by simp [vOut]
   cases hk:look M.cs e.to with
   | none=>
    have ev:viewAct M 1 e l=.inl (e,e,0):=by unfold viewAct;rw [if_neg c1,if_neg nb,if_neg nt,hk];show Sum.inl (vOut 1 l e)=_;rw [evo]
    rw [ev]
    rw [hk] at hg
    exact(bview_none sb l M.n e Rec.zero w hn h.pos hv h0 h1 hl hg).mono fun r w' hr=>⟨hr.1,h.stay hr.2⟩
   | some r=>
    obtain⟨k1,k2,k3⟩:=leads_some b hk
    have hok:=h.fit hk
    rw [hk] at hg
    by_cases c2:l<r.top
    ·have ev:viewAct M 1 e l=.inl (e,e,0):=by unfold viewAct;rw [if_neg c1,if_neg nb,if_neg nt,hk];show(if l<r.top then Sum.inl (vOut 1 l e) else _)=_;rw [if_pos c2,evo]
     rw [ev]
     exact(bview_up sb l M.n e r w hn h.pos hv h0 h1 hl c2 hok.top.1 hok.top.2 hok.bot.1 hok.bot.2 hg).mono fun r w' hr=>⟨hr.1,h.stay hr.2⟩
    ·have k4:r.top=l:=by omega
     have ev:viewAct M 1 e l=.inl (r.lo,r.hi,0):=by unfold viewAct;rw [if_neg c1,if_neg nb,if_neg nt,hk];show(if l<r.top then Sum.inl (vOut 1 l e) else _)=_;rw [if_neg c2,if_neg (by omega)]
     rw [ev]
     obtain⟨rf,rt,rb,rlo,rhi⟩:=r
     dsimp only at k4
     subst k4
     exact(bview_at sb rt M.n e ⟨rf,rt,rb,rlo,rhi⟩ w hn h.pos hv h0 h1 hl hok.top.1 hok.top.2 hok.bot.1 hok.bot.2 hg).mono fun r w' hr=>⟨hr.1,h.stay hr.2⟩

theorem zdd_view {F:Nat→Prop}{w:World}{sb:Nat}{M:St}(h:StoreRep F w sb M)(e:Edge)(l:Int)(he:e.ok) :
  Calls Tryz.prog 295 #[.pointer (some ⟨sb,0,none⟩),.agg #[.int .u8 e.tag,.int .u32 e.to],.int .i64 l] w fun r w'=>
   r=.returned (.tuple #[.agg #[.int .u8 (vLo M (viewAct M 2 e l)).tag,.int .u32 (vLo M (viewAct M 2 e l)).to],.agg #[.int .u8 (vHi M 2 (viewAct M 2 e l)).tag,.int .u32 (vHi M 2 (viewAct M 2 e l)).to],.int .u8 (vErr M (viewAct M 2 e l))])∧Upd F w w'∧StoreRep (Grow F w w') w' sb (vSt M (viewAct M 2 e l)):=by
 have hn:=h.wf.n16
 have hv:=fun(W:World) (hW:Keeps w W)=>store_vars (h.keeps hW)
 have hg:=fun(W:World) (hW:Keeps w W)=>store_get (h.keeps hW) e.to he.2.2
 have hl:=fun(W:World) (hW:Keeps w W)=>store_leads (h.keeps hW) 2 e l he
 by_cases c1:l<0∨M.n≤l
 ·have ev:viewAct M 2 e l=.inl (⟨0,0⟩,⟨0,0⟩,3):=if_pos c1
  rw [ev]
  by_cases c0:l<0
  ·exact(zview_neg sb l M.n e w hn h.pos hv c0).mono fun r w' hr=>⟨hr.1,h.stay hr.2⟩
  ·exact(zview_big sb l M.n e w hn h.pos hv (by omega) (by omega)).mono fun r w' hr=>⟨hr.1,h.stay hr.2⟩
 ·have h0:0≤l:=by omega
  have h1:l<M.n:=by omega
  rcases bool_cases (M.leads 2 e l) with b|b
  ·have ev:viewAct M 2 e l=.inl (⟨0,0⟩,⟨0,0⟩,1):=by unfold viewAct;rw [if_neg c1,if_pos b]
   rw [ev]
   rw [b] at hl
   exact(zview_no sb l M.n e w hn h.pos hv h0 h1 hl).mono fun r w' hr=>⟨hr.1,h.stay hr.2⟩
  ·have nb:¬M.leads 2 e l=false:=by rw [b];simp
   rw [b] at hl
   have nt:¬((2:Int)=5∧(e.to=0∨l<e.tag)):=by omega
   have evo:vOut 2 l e=(e,⟨0,0⟩,0):=by simp [vOut]
   cases hk:look M.cs e.to with
   | none=>
    have ev:viewAct M 2 e l=.inl (e,⟨0,0⟩,0):=by unfold viewAct;rw [if_neg c1,if_neg nb,if_neg nt,hk];show Sum.inl (vOut 2 l e)=_;rw [evo]
    rw [ev]
    rw [hk] at hg
    exact(zview_none sb l M.n e Rec.zero w hn h.pos hv h0 h1 hl hg).mono fun r w' hr=>⟨hr.1,h.stay hr.2⟩
   | some r=>
    obtain⟨k1,k2,k3⟩:=leads_some b hk
    have hok:=h.fit hk
    rw [hk] at hg
    by_cases c2:l<r.top
    ·have ev:viewAct M 2 e l=.inl (e,⟨0,0⟩,0):=by unfold viewAct;rw [if_neg c1,if_neg nb,if_neg nt,hk];show(if l<r.top then Sum.inl (vOut 2 l e) else _)=_;rw [if_pos c2,evo]
     rw [ev]
     exact(zview_up sb l M.n e r w hn h.pos hv h0 h1 hl c2 hok.top.1 hok.top.2 hok.bot.1 hok.bot.2 hg).mono fun r w' hr=>⟨hr.1,h.stay hr.2⟩
    ·have k4:r.top=l:=by omega
     have ev:viewAct M 2 e l=.inl (r.lo,r.hi,0):=by unfold viewAct;rw [if_neg c1,if_neg nb,if_neg nt,hk];show(if l<r.top then Sum.inl (vOut 2 l e) else _)=_;rw [if_neg c2,if_neg (by omega)]
     rw [ev]
     obtain⟨rf,rt,rb,rlo,rhi⟩:=r
     dsimp only at k4
     subst k4
     exact(zview_at sb rt M.n e ⟨rf,rt,rb,rlo,rhi⟩ w hn h.pos hv h0 h1 hl hok.top.1 hok.top.2 hok.bot.1 hok.bot.2 hg).mono fun r w' hr=>⟨hr.1,h.stay hr.2⟩

theorem cbdd_view {F:Nat→Prop}{w:World}{sb:Nat}{M:St}(h:StoreRep F w sb M)(e:Edge)(l:Int)(he:e.ok) :
  Calls Tryz.prog 296 #[.pointer (some ⟨sb,0,none⟩),.agg #[.int .u8 e.tag,.int .u32 e.to],.int .i64 l] w fun r w'=>
   r=.returned (.tuple #[.agg #[.int .u8 (vLo M (viewAct M 3 e l)).tag,.int .u32 (vLo M (viewAct M 3 e l)).to],.agg #[.int .u8 (vHi M 3 (viewAct M 3 e l)).tag,.int .u32 (vHi M 3 (viewAct M 3 e l)).to],.int .u8 (vErr M (viewAct M 3 e l))])∧Upd F w w'∧StoreRep (Grow F w w') w' sb (vSt M (viewAct M 3 e l)):=by
 have hn:=h.wf.n16
 have hv:=fun(W:World) (hW:Keeps w W)=>store_vars (h.keeps hW)
 have hg:=fun(W:World) (hW:Keeps w W)=>store_get (h.keeps hW) e.to he.2.2
 have hl:=fun(W:World) (hW:Keeps w W)=>store_leads (h.keeps hW) 3 e l he
 by_cases c1:l<0∨M.n≤l
 ·have ev:viewAct M 3 e l=.inl (⟨0,0⟩,⟨0,0⟩,3):=if_pos c1
  rw [ev]
  by_cases c0:l<0
  ·exact(cview_neg sb l M.n e w hn h.pos hv c0).mono fun r w' hr=>⟨hr.1,h.stay hr.2⟩
  ·exact(cview_big sb l M.n e w hn h.pos hv (by omega) (by omega)).mono fun r w' hr=>⟨hr.1,h.stay hr.2⟩
 ·have h0:0≤l:=by omega
  have h1:l<M.n:=by omega
  rcases bool_cases (M.leads 3 e l) with b|b
  ·have ev:viewAct M 3 e l=.inl (⟨0,0⟩,⟨0,0⟩,1):=by unfold viewAct;rw [if_neg c1,if_pos b]
   rw [ev]
   rw [b] at hl
   exact(cview_no sb l M.n e w hn h.pos hv h0 h1 hl).mono fun r w' hr=>⟨hr.1,h.stay hr.2⟩
  ·have nb:¬M.leads 3 e l=false:=by rw [b];simp
   rw [b] at hl
   have nt:¬((3:Int)=5∧(e.to=0∨l<e.tag)):=by omega
   have evo:vOut 3 l e=(e,e,0):=by simp [vOut]
   cases hk:look M.cs e.to with
   | none=>
    have ev:viewAct M 3 e l=.inl (e,e,0):=by unfold viewAct;rw [if_neg c1,if_neg nb,if_neg nt,hk];show Sum.inl (vOut 3 l e)=_;rw [evo]
    rw [ev]
    rw [hk] at hg
    exact(cview_none sb l M.n e Rec.zero w hn h.pos hv h0 h1 hl hg).mono fun r w' hr=>⟨hr.1,h.stay hr.2⟩
   | some r=>
    obtain⟨k1,k2,k3⟩:=leads_some b hk
    have hok:=h.fit hk
    rw [hk] at hg
    by_cases c2:l<r.top
    ·have ev:viewAct M 3 e l=.inl (e,e,0):=by unfold viewAct;rw [if_neg c1,if_neg nb,if_neg nt,hk];show(if l<r.top then Sum.inl (vOut 3 l e) else _)=_;rw [if_pos c2,evo]
     rw [ev]
     exact(cview_up sb l M.n e r w hn h.pos hv h0 h1 hl c2 hok.top.1 hok.top.2 hok.bot.1 hok.bot.2 hg).mono fun r w' hr=>⟨hr.1,h.stay hr.2⟩
    ·have k4:r.top=l:=by omega
     by_cases c4:r.bot=r.top
     ·have ev:viewAct M 3 e l=.inl (r.lo,r.hi,0):=by unfold viewAct;rw [if_neg c1,if_neg nb,if_neg nt,hk];show(if l<r.top then Sum.inl (vOut 3 l e) else _)=_;rw [if_neg c2,if_neg (fun hh=>hh.2 c4)]
      rw [ev]
      obtain⟨rf,rt,rb,rlo,rhi⟩:=r
      dsimp only at k4 c4
      subst c4
      subst k4
      exact(cview_at sb rb M.n e ⟨rf,rb,rb,rlo,rhi⟩ w hn h.pos hv h0 h1 hl hok.top.1 hok.top.2 hok.bot.1 hok.bot.2 hg).mono fun r w' hr=>⟨hr.1,h.stay hr.2⟩
     ·have ev:viewAct M 3 e l=.inr ⟨r.form,r.top+1,r.bot,r.lo,r.hi⟩:=by unfold viewAct;rw [if_neg c1,if_neg nb,if_neg nt,hk];show(if l<r.top then Sum.inl (vOut 3 l e) else _)=_;rw [if_neg c2,if_pos ⟨.inl rfl,c4⟩]
      rw [ev]
      have hr:=chain_ok (M:=M) (f:=3) hok h0 (by omega) (by decide)
      obtain⟨rf,rt,rb,rlo,rhi⟩:=r
      dsimp only at k1 k4 c4 hr ⊢
      subst k1
      subst k4
      have hf:=fun(W:World) (hW:Keeps w W)=>cbdd_found0 (h.keeps hW) ⟨3,rt+1,rb,rlo,rhi⟩ hr
      by_cases he0:M.findErr ⟨3,rt+1,rb,rlo,rhi⟩=0
      ·have e2:vHi M 3 (.inr ⟨3,rt+1,rb,rlo,rhi⟩)=rhi:=by simp [vHi,he0]
       have e3:vErr M (.inr ⟨3,rt+1,rb,rlo,rhi⟩)=0:=he0
       rw [e2,e3]
       rw [he0] at hf
       refine(cview_chain (fun W W1=>StoreRep (Grow F W W1) W1 sb (M.findSt ⟨3,rt+1,rb,rlo,rhi⟩)) sb rt M.n e ⟨3,rt,rb,rlo,rhi⟩ _ _ w hn h.pos hv h0 h1 hl c4 hok.top.1 hok.top.2 hok.bot.1 hok.bot.2 hg h.lt hf).mono ?_
       rintro r w' ⟨rfl,W,W1,q1,q2,q3,q4⟩
       exact⟨rfl,q3.after h.lt q1 q2 q4⟩
      ·have e1:vLo M (.inr ⟨3,rt+1,rb,rlo,rhi⟩)=⟨0,0⟩:=foundE_bad he0
       have e2:vHi M 3 (.inr ⟨3,rt+1,rb,rlo,rhi⟩)=⟨0,0⟩:=by simp [vHi,he0]
       rw [e1,e2]
       refine(cview_full (fun W W1=>StoreRep (Grow F W W1) W1 sb (M.findSt ⟨3,rt+1,rb,rlo,rhi⟩)) sb rt M.n e ⟨3,rt,rb,rlo,rhi⟩ _ _ (M.findErr ⟨3,rt+1,rb,rlo,rhi⟩) he0 w hn h.pos hv h0 h1 hl c4 hok.top.1 hok.top.2 hok.bot.1 hok.bot.2 hg h.lt hf).mono ?_
       rintro r w' ⟨rfl,W,W1,q1,q2,q3,q4⟩
       exact⟨rfl,q3.after h.lt q1 q2 q4⟩

theorem czdd_view {F:Nat→Prop}{w:World}{sb:Nat}{M:St}(h:StoreRep F w sb M)(e:Edge)(l:Int)(he:e.ok) :
  Calls Tryz.prog 297 #[.pointer (some ⟨sb,0,none⟩),.agg #[.int .u8 e.tag,.int .u32 e.to],.int .i64 l] w fun r w'=>
   r=.returned (.tuple #[.agg #[.int .u8 (vLo M (viewAct M 4 e l)).tag,.int .u32 (vLo M (viewAct M 4 e l)).to],.agg #[.int .u8 (vHi M 4 (viewAct M 4 e l)).tag,.int .u32 (vHi M 4 (viewAct M 4 e l)).to],.int .u8 (vErr M (viewAct M 4 e l))])∧Upd F w w'∧StoreRep (Grow F w w') w' sb (vSt M (viewAct M 4 e l)):=by
 have hn:=h.wf.n16
 have hv:=fun(W:World) (hW:Keeps w W)=>store_vars (h.keeps hW)
 have hg:=fun(W:World) (hW:Keeps w W)=>store_get (h.keeps hW) e.to he.2.2
 have hl:=fun(W:World) (hW:Keeps w W)=>store_leads (h.keeps hW) 4 e l he
 by_cases c1:l<0∨M.n≤l
 ·have ev:viewAct M 4 e l=.inl (⟨0,0⟩,⟨0,0⟩,3):=if_pos c1
  rw [ev]
  by_cases c0:l<0
  ·exact(qview_neg sb l M.n e w hn h.pos hv c0).mono fun r w' hr=>⟨hr.1,h.stay hr.2⟩
  ·exact(qview_big sb l M.n e w hn h.pos hv (by omega) (by omega)).mono fun r w' hr=>⟨hr.1,h.stay hr.2⟩
 ·have h0:0≤l:=by omega
  have h1:l<M.n:=by omega
  rcases bool_cases (M.leads 4 e l) with b|b
  ·have ev:viewAct M 4 e l=.inl (⟨0,0⟩,⟨0,0⟩,1):=by unfold viewAct;rw [if_neg c1,if_pos b]
   rw [ev]
   rw [b] at hl
   exact(qview_no sb l M.n e w hn h.pos hv h0 h1 hl).mono fun r w' hr=>⟨hr.1,h.stay hr.2⟩
  ·have nb:¬M.leads 4 e l=false:=by rw [b];simp
   rw [b] at hl
   have nt:¬((4:Int)=5∧(e.to=0∨l<e.tag)):=by omega
   have evo:vOut 4 l e=(e,⟨0,0⟩,0):=by simp [vOut]
   cases hk:look M.cs e.to with
   | none=>
    have ev:viewAct M 4 e l=.inl (e,⟨0,0⟩,0):=by unfold viewAct;rw [if_neg c1,if_neg nb,if_neg nt,hk];show Sum.inl (vOut 4 l e)=_;rw [evo]
    rw [ev]
    rw [hk] at hg
    exact(qview_none sb l M.n e Rec.zero w hn h.pos hv h0 h1 hl hg).mono fun r w' hr=>⟨hr.1,h.stay hr.2⟩
   | some r=>
    obtain⟨k1,k2,k3⟩:=leads_some b hk
    have hok:=h.fit hk
    rw [hk] at hg
    by_cases c2:l<r.top
    ·have ev:viewAct M 4 e l=.inl (e,⟨0,0⟩,0):=by unfold viewAct;rw [if_neg c1,if_neg nb,if_neg nt,hk];show(if l<r.top then Sum.inl (vOut 4 l e) else _)=_;rw [if_pos c2,evo]
     rw [ev]
     exact(qview_up sb l M.n e r w hn h.pos hv h0 h1 hl c2 hok.top.1 hok.top.2 hok.bot.1 hok.bot.2 hg).mono fun r w' hr=>⟨hr.1,h.stay hr.2⟩
    ·have k4:r.top=l:=by omega
     by_cases c4:r.bot=r.top
     ·have ev:viewAct M 4 e l=.inl (r.lo,r.hi,0):=by unfold viewAct;rw [if_neg c1,if_neg nb,if_neg nt,hk];show(if l<r.top then Sum.inl (vOut 4 l e) else _)=_;rw [if_neg c2,if_neg (fun hh=>hh.2 c4)]
      rw [ev]
      obtain⟨rf,rt,rb,rlo,rhi⟩:=r
      dsimp only at k4 c4
      subst c4
      subst k4
      exact(qview_at sb rb M.n e ⟨rf,rb,rb,rlo,rhi⟩ w hn h.pos hv h0 h1 hl hok.top.1 hok.top.2 hok.bot.1 hok.bot.2 hg).mono fun r w' hr=>⟨hr.1,h.stay hr.2⟩
     ·have ev:viewAct M 4 e l=.inr ⟨r.form,r.top+1,r.bot,r.lo,r.hi⟩:=by unfold viewAct;rw [if_neg c1,if_neg nb,if_neg nt,hk];show(if l<r.top then Sum.inl (vOut 4 l e) else _)=_;rw [if_neg c2,if_pos ⟨.inr rfl,c4⟩]
      rw [ev]
      have hr:=chain_ok (M:=M) (f:=4) hok h0 (by omega) (by decide)
      obtain⟨rf,rt,rb,rlo,rhi⟩:=r
      dsimp only at k1 k4 c4 hr ⊢
      subst k1
      subst k4
      have hf:=fun(W:World) (hW:Keeps w W)=>czdd_found0 (h.keeps hW) ⟨4,rt+1,rb,rlo,rhi⟩ hr
      by_cases he0:M.findErr ⟨4,rt+1,rb,rlo,rhi⟩=0
      ·have e2:vHi M 4 (.inr ⟨4,rt+1,rb,rlo,rhi⟩)=foundE M 0 ⟨4,rt+1,rb,rlo,rhi⟩:=by simp [vHi,he0]
       have e3:vErr M (.inr ⟨4,rt+1,rb,rlo,rhi⟩)=0:=he0
       rw [e2,e3]
       rw [he0] at hf
       refine(qview_chain (fun W W1=>StoreRep (Grow F W W1) W1 sb (M.findSt ⟨4,rt+1,rb,rlo,rhi⟩)) sb rt M.n e ⟨4,rt,rb,rlo,rhi⟩ _ _ w hn h.pos hv h0 h1 hl c4 hok.top.1 hok.top.2 hok.bot.1 hok.bot.2 hg h.lt hf).mono ?_
       rintro r w' ⟨rfl,W,W1,q1,q2,q3,q4⟩
       exact⟨rfl,q3.after h.lt q1 q2 q4⟩
      ·have e1:vLo M (.inr ⟨4,rt+1,rb,rlo,rhi⟩)=⟨0,0⟩:=foundE_bad he0
       have e2:vHi M 4 (.inr ⟨4,rt+1,rb,rlo,rhi⟩)=⟨0,0⟩:=by simp [vHi,he0]
       rw [e1,e2]
       refine(qview_full (fun W W1=>StoreRep (Grow F W W1) W1 sb (M.findSt ⟨4,rt+1,rb,rlo,rhi⟩)) sb rt M.n e ⟨4,rt,rb,rlo,rhi⟩ _ _ (M.findErr ⟨4,rt+1,rb,rlo,rhi⟩) he0 w hn h.pos hv h0 h1 hl c4 hok.top.1 hok.top.2 hok.bot.1 hok.bot.2 hg h.lt hf).mono ?_
       rintro r w' ⟨rfl,W,W1,q1,q2,q3,q4⟩
       exact⟨rfl,q3.after h.lt q1 q2 q4⟩

theorem tbdd_view {F:Nat→Prop}{w:World}{sb:Nat}{M:St}(h:StoreRep F w sb M)(e:Edge)(l:Int)(he:e.ok) :
  Calls Tryz.prog 298 #[.pointer (some ⟨sb,0,none⟩),.agg #[.int .u8 e.tag,.int .u32 e.to],.int .i64 l] w fun r w'=>
   r=.returned (.tuple #[.agg #[.int .u8 (vLo M (viewAct M 5 e l)).tag,.int .u32 (vLo M (viewAct M 5 e l)).to],.agg #[.int .u8 (vHi M 5 (viewAct M 5 e l)).tag,.int .u32 (vHi M 5 (viewAct M 5 e l)).to],.int .u8 (vErr M (viewAct M 5 e l))])∧Upd F w w'∧StoreRep (Grow F w w') w' sb (vSt M (viewAct M 5 e l)):=by
 have hn:=h.wf.n16
 have hv:=fun(W:World) (hW:Keeps w W)=>store_vars (h.keeps hW)
 have hg:=fun(W:World) (hW:Keeps w W)=>store_get (h.keeps hW) e.to he.2.2
 have hl:=fun(W:World) (hW:Keeps w W)=>store_leads (h.keeps hW) 5 e l he
 by_cases c1:l<0∨M.n≤l
 ·have ev:viewAct M 5 e l=.inl (⟨0,0⟩,⟨0,0⟩,3):=if_pos c1
  rw [ev]
  by_cases c0:l<0
  ·exact(tview_neg sb l M.n e w hn h.pos hv c0).mono fun r w' hr=>⟨hr.1,h.stay hr.2⟩
  ·exact(tview_big sb l M.n e w hn h.pos hv (by omega) (by omega)).mono fun r w' hr=>⟨hr.1,h.stay hr.2⟩
 ·have h0:0≤l:=by omega
  have h1:l<M.n:=by omega
  rcases bool_cases (M.leads 5 e l) with b|b
  ·have ev:viewAct M 5 e l=.inl (⟨0,0⟩,⟨0,0⟩,1):=by unfold viewAct;rw [if_neg c1,if_pos b]
   rw [ev]
   rw [b] at hl
   exact(tview_no sb l M.n e w hn h.pos hv h0 h1 hl).mono fun r w' hr=>⟨hr.1,h.stay hr.2⟩
  ·have nb:¬M.leads 5 e l=false:=by rw [b];simp
   rw [b] at hl
   by_cases z0:e.to=0
   ·have ev:viewAct M 5 e l=.inl (e,e,0):=by unfold viewAct;rw [if_neg c1,if_neg nb,if_pos ⟨rfl,.inl z0⟩]
    rw [ev]
    obtain⟨et,ea⟩:=e
    dsimp only at z0
    subst z0
    exact(tview_zero sb l M.n et w hn h.pos hv h0 h1 hl).mono fun r w' hr=>⟨hr.1,h.stay hr.2⟩
   by_cases z1:l<e.tag
   ·have ev:viewAct M 5 e l=.inl (e,e,0):=by unfold viewAct;rw [if_neg c1,if_neg nb,if_pos ⟨rfl,.inr z1⟩]
    rw [ev]
    exact(tview_tag sb l M.n e w hn h.pos hv h0 h1 hl he.1.1 he.1.2 z0 z1).mono fun r w' hr=>⟨hr.1,h.stay hr.2⟩
   have nt:¬((5:Int)=5∧(e.to=0∨l<e.tag)):=by omega
   have z2:e.tag≤l:=by omega
   have evo:vOut 5 l e=(⟨l+1,e.to⟩,⟨0,0⟩,0):=by simp [vOut]
   cases hk:look M.cs e.to with
   | none=>
    have ev:viewAct M 5 e l=.inl (⟨l+1,e.to⟩,⟨0,0⟩,0):=by unfold viewAct;rw [if_neg c1,if_neg nb,if_neg nt,hk];show Sum.inl (vOut 5 l e)=_;rw [evo]
    rw [ev]
    rw [hk] at hg
    exact(tview_none sb l M.n e Rec.zero w hn h.pos hv h0 h1 hl he.1.1 he.1.2 z0 z2 hg).mono fun r w' hr=>⟨hr.1,h.stay hr.2⟩
   | some r=>
    obtain⟨k1,k2,k3⟩:=leads_some b hk
    have hok:=h.fit hk
    rw [hk] at hg
    by_cases c2:l<r.top
    ·have ev:viewAct M 5 e l=.inl (⟨l+1,e.to⟩,⟨0,0⟩,0):=by unfold viewAct;rw [if_neg c1,if_neg nb,if_neg nt,hk];show(if l<r.top then Sum.inl (vOut 5 l e) else _)=_;rw [if_pos c2,evo]
     rw [ev]
     exact(tview_up sb l M.n e r w hn h.pos hv h0 h1 hl he.1.1 he.1.2 z0 z2 c2 hok.top.1 hok.top.2 hok.bot.1 hok.bot.2 hg).mono fun r w' hr=>⟨hr.1,h.stay hr.2⟩
    ·have k4:r.top=l:=by omega
     have ev:viewAct M 5 e l=.inl (r.lo,r.hi,0):=by unfold viewAct;rw [if_neg c1,if_neg nb,if_neg nt,hk];show(if l<r.top then Sum.inl (vOut 5 l e) else _)=_;rw [if_neg c2,if_neg (by omega)]
     rw [ev]
     obtain⟨rf,rt,rb,rlo,rhi⟩:=r
     dsimp only at k4
     subst k4
     exact(tview_at sb rt M.n e ⟨rf,rt,rb,rlo,rhi⟩ w hn h.pos hv h0 h1 hl he.1.1 he.1.2 z0 z2 hok.top.1 hok.top.2 hok.bot.1 hok.bot.2 hg).mono fun r w' hr=>⟨hr.1,h.stay hr.2⟩

end Go.Proofs.YtpgcbmbnognieaaGreat
