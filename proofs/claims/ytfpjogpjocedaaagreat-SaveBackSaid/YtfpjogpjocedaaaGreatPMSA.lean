/-
  What View does, over the state (printed by wip/mk_vstore.py).
-/
import Derived.Test.YtfpjogpjocedaaaGreatPMakeBZ
import Derived.Test.YtfpjogpjocedaaaGreatPMakeC
import Derived.Test.YtfpjogpjocedaaaGreatPMakeQ
import Derived.Test.YtfpjogpjocedaaaGreatPTMakeA
import Derived.Test.YtfpjogpjocedaaaGreatPWireN
import Derived.Laws.Strings
namespace Go.Proofs.YtfpjogpjocedaaaGreat
set_option linter.unusedSimpArgs false
set_option linter.unusedVariables false
set_option maxHeartbeats 600000
open Go.RowKit

theorem leads_some {M:St} {f:Int} {e:Edge} {l:Int} (h:M.leads f e l=true) {r:Rec} (hl:look M.cs e.to=some r):r.form=f ∧ l ≤ r.top ∧ e.tag ≤ r.top:=by
 have h2:=(look_some hl).1
 unfold St.leads at h
 rw [hl,decide_eq_false (show ¬ e.to < 2 by omega)] at h
 simp at h
 exact ⟨h.2.1.1,h.2.1.2,h.2.2⟩

def vOut (f l:Int) (e:Edge):Edge × Edge × Int:=
 if f=1 ∨ f=3 then (e,e,0) else if f=5 then (⟨l + 1,e.to⟩,⟨0,0⟩,0) else (e,⟨0,0⟩,0)

def viewAct (M:St) (f:Int) (e:Edge) (l:Int):(Edge × Edge × Int) ⊕ Rec:=
 if l < 0 ∨ M.n ≤ l then .inl (⟨0,0⟩,⟨0,0⟩,3)
 else if M.leads f e l=false then .inl (⟨0,0⟩,⟨0,0⟩,1)
 else if f=5 ∧ (e.to=0 ∨ l < e.tag) then .inl (e,e,0)
 else match look M.cs e.to with
  | none=>.inl (vOut f l e)
  | some r=>if l < r.top then .inl (vOut f l e) else if (f=3 ∨ f=4) ∧ r.bot ≠ r.top then .inr ⟨r.form,r.top + 1,r.bot,r.lo,r.hi⟩ else .inl (r.lo,r.hi,0)

def vLo (M:St):(Edge × Edge × Int) ⊕ Rec → Edge | .inl x=>x.1 | .inr r=>foundE M 0 r
def vHi (M:St) (f:Int):(Edge × Edge × Int) ⊕ Rec → Edge | .inl x=>x.2.1 | .inr r=>if M.findErr r=0 then (if f=4 then foundE M 0 r else r.hi) else ⟨0,0⟩
def vErr (M:St):(Edge × Edge × Int) ⊕ Rec → Int | .inl x=>x.2.2 | .inr r=>M.findErr r
def vSt (M:St):(Edge × Edge × Int) ⊕ Rec → St | .inl _=>M | .inr r=>M.findSt r
theorem foundE_ok {M:St} {t:Int} {r:Rec} (h:M.findErr r=0):foundE M t r=⟨t,M.findId r⟩:=if_pos h

theorem cbdd_found0 {F:Nat → Prop} {w:World} {sb:Nat} {M:St} (h:StoreRep F w sb M) (r:Rec) (hr:r.ok) :
  Calls Tryz.prog 159 #[.pointer (some ⟨sb,0,none⟩),.agg #[.int .u8 r.form,.int .u8 r.top,.int .u8 r.bot,.int .u8 r.lo.tag,.int .u32 r.lo.to,.int .u8 r.hi.tag,.int .u32 r.hi.to]] w fun e w'=>e=.returned (.tuple #[.agg #[.int .u8 (foundE M 0 r).tag,.int .u32 (foundE M 0 r).to],.int .u8 (M.findErr r)]) ∧ Upd F w w' ∧ StoreRep (Grow F w w') w' sb (M.findSt r):=by
 have hf:=fun (W:World) (hW:Keeps w W)=>store_find (h.keeps hW) r hr
 by_cases he:M.findErr r=0
 ·have e1:foundE M 0 r=⟨0,M.findId r⟩:=if_pos he
  rw [e1,he]
  rw [he] at hf
  refine (cfound_ok sb r (M.findId r) w h.pos h.lt (fun W W1=>StoreRep (Grow F W W1) W1 sb (M.findSt r)) hf).mono ?_
  rintro e w' ⟨rfl,W,W1,h1,h2,h3,h4⟩
  exact ⟨rfl,h3.after h.lt h1 h2 h4⟩
 ·have e1:foundE M 0 r=⟨0,0⟩:=if_neg he
  rw [e1]
  refine (cfound_bad sb r (M.findId r) (M.findErr r) he w h.pos h.lt (fun W W1=>StoreRep (Grow F W W1) W1 sb (M.findSt r)) hf).mono ?_
  rintro e w' ⟨rfl,W,W1,h1,h2,h3,h4⟩
  exact ⟨rfl,h3.after h.lt h1 h2 h4⟩

theorem czdd_found0 {F:Nat → Prop} {w:World} {sb:Nat} {M:St} (h:StoreRep F w sb M) (r:Rec) (hr:r.ok) :
  Calls Tryz.prog 160 #[.pointer (some ⟨sb,0,none⟩),.agg #[.int .u8 r.form,.int .u8 r.top,.int .u8 r.bot,.int .u8 r.lo.tag,.int .u32 r.lo.to,.int .u8 r.hi.tag,.int .u32 r.hi.to]] w fun e w'=>e=.returned (.tuple #[.agg #[.int .u8 (foundE M 0 r).tag,.int .u32 (foundE M 0 r).to],.int .u8 (M.findErr r)]) ∧ Upd F w w' ∧ StoreRep (Grow F w w') w' sb (M.findSt r):=by
 have hf:=fun (W:World) (hW:Keeps w W)=>store_find (h.keeps hW) r hr
 by_cases he:M.findErr r=0
 ·have e1:foundE M 0 r=⟨0,M.findId r⟩:=if_pos he
  rw [e1,he]
  rw [he] at hf
  refine (zfound_ok sb r (M.findId r) w h.pos h.lt (fun W W1=>StoreRep (Grow F W W1) W1 sb (M.findSt r)) hf).mono ?_
  rintro e w' ⟨rfl,W,W1,h1,h2,h3,h4⟩
  exact ⟨rfl,h3.after h.lt h1 h2 h4⟩
 ·have e1:foundE M 0 r=⟨0,0⟩:=if_neg he
  rw [e1]
  refine (zfound_bad sb r (M.findId r) (M.findErr r) he w h.pos h.lt (fun W W1=>StoreRep (Grow F W W1) W1 sb (M.findSt r)) hf).mono ?_
  rintro e w' ⟨rfl,W,W1,h1,h2,h3,h4⟩
  exact ⟨rfl,h3.after h.lt h1 h2 h4⟩

def bRest (_:St) (l:Int) (lo hi:Edge):(Edge × Int) ⊕ Rec:=if lo=hi then .inl (lo,0) else .inr ⟨1,l,l,lo,hi⟩

def zRest (_:St) (l:Int) (lo hi:Edge):(Edge × Int) ⊕ Rec:=if hi.to=0 then .inl (lo,0) else .inr ⟨2,l,l,lo,hi⟩

def cRest (M:St) (l:Int) (lo hi:Edge):(Edge × Int) ⊕ Rec:=
 if lo=hi then .inl (lo,0) else match look M.cs lo.to with
  | none=>.inr ⟨3,l,l,lo,hi⟩
  | some r=>if r.top=l + 1 then (if r.hi=hi then .inr ⟨3,l,r.bot,r.lo,hi⟩ else .inr ⟨3,l,l,lo,hi⟩) else .inr ⟨3,l,l,lo,hi⟩

def qRest (M:St) (l:Int) (lo hi:Edge):(Edge × Int) ⊕ Rec:=
 if hi.to=0 then .inl (lo,0) else match look M.cs lo.to with
  | none=>.inr ⟨4,l,l,lo,hi⟩
  | some r=>if lo=hi then (if r.top=l + 1 then .inr ⟨4,l,r.bot,r.lo,r.hi⟩ else .inr ⟨4,l,l,lo,hi⟩) else .inr ⟨4,l,l,lo,hi⟩

def makeAct (M:St) (f l:Int) (lo hi:Edge) (rest:(Edge × Int) ⊕ Rec):(Edge × Int) ⊕ Rec:=
 if l < 0 ∨ M.n ≤ l then .inl (⟨0,0⟩,3)
 else if M.leads f lo (l + 1)=false ∨ M.leads f hi (l + 1)=false then .inl (⟨0,0⟩,1) else rest

def actE0 (M:St):(Edge × Int) ⊕ Rec → Edge | .inl x=>x.1 | .inr r=>foundE M 0 r

theorem rec_ok {f l b:Int} {lo hi:Edge} (hf:0 ≤ f ∧ f ≤ 255) (h0:0 ≤ l) (h1:l ≤ 16) (hb:0 ≤ b ∧ b ≤ 255) (hlo:lo.ok) (hhi:hi.ok):(⟨f,l,b,lo,hi⟩:Rec).ok:=
 ⟨hf,⟨h0,by show l ≤ 255;omega⟩,hb,hlo,hhi⟩

theorem bdd_found0 {F:Nat → Prop} {w:World} {sb:Nat} {M:St} (h:StoreRep F w sb M) (r:Rec) (hr:r.ok) :
  Calls Tryz.prog 157 #[.pointer (some ⟨sb,0,none⟩),.agg #[.int .u8 r.form,.int .u8 r.top,.int .u8 r.bot,.int .u8 r.lo.tag,.int .u32 r.lo.to,.int .u8 r.hi.tag,.int .u32 r.hi.to]] w fun e w'=>e=.returned (.tuple #[.agg #[.int .u8 (foundE M 0 r).tag,.int .u32 (foundE M 0 r).to],.int .u8 (M.findErr r)]) ∧ Upd F w w' ∧ StoreRep (Grow F w w') w' sb (M.findSt r):=by
 have hf:=fun (W:World) (hW:Keeps w W)=>store_find (h.keeps hW) r hr
 by_cases he:M.findErr r=0
 ·have e1:foundE M 0 r=⟨0,M.findId r⟩:=if_pos he
  rw [e1,he]
  rw [he] at hf
  refine (bfound_ok sb r (M.findId r) w h.pos h.lt (fun W W1=>StoreRep (Grow F W W1) W1 sb (M.findSt r)) hf).mono ?_
  rintro e w' ⟨rfl,W,W1,h1,h2,h3,h4⟩
  exact ⟨rfl,h3.after h.lt h1 h2 h4⟩
 ·have e1:foundE M 0 r=⟨0,0⟩:=if_neg he
  rw [e1]
  refine (bfound_bad sb r (M.findId r) (M.findErr r) he w h.pos h.lt (fun W W1=>StoreRep (Grow F W W1) W1 sb (M.findSt r)) hf).mono ?_
  rintro e w' ⟨rfl,W,W1,h1,h2,h3,h4⟩
  exact ⟨rfl,h3.after h.lt h1 h2 h4⟩

theorem zdd_found0 {F:Nat → Prop} {w:World} {sb:Nat} {M:St} (h:StoreRep F w sb M) (r:Rec) (hr:r.ok) :
  Calls Tryz.prog 158 #[.pointer (some ⟨sb,0,none⟩),.agg #[.int .u8 r.form,.int .u8 r.top,.int .u8 r.bot,.int .u8 r.lo.tag,.int .u32 r.lo.to,.int .u8 r.hi.tag,.int .u32 r.hi.to]] w fun e w'=>e=.returned (.tuple #[.agg #[.int .u8 (foundE M 0 r).tag,.int .u32 (foundE M 0 r).to],.int .u8 (M.findErr r)]) ∧ Upd F w w' ∧ StoreRep (Grow F w w') w' sb (M.findSt r):=by
 have hf:=fun (W:World) (hW:Keeps w W)=>store_find (h.keeps hW) r hr
 by_cases he:M.findErr r=0
 ·have e1:foundE M 0 r=⟨0,M.findId r⟩:=if_pos he
  rw [e1,he]
  rw [he] at hf
  refine (yfound_ok sb r (M.findId r) w h.pos h.lt (fun W W1=>StoreRep (Grow F W W1) W1 sb (M.findSt r)) hf).mono ?_
  rintro e w' ⟨rfl,W,W1,h1,h2,h3,h4⟩
  exact ⟨rfl,h3.after h.lt h1 h2 h4⟩
 ·have e1:foundE M 0 r=⟨0,0⟩:=if_neg he
  rw [e1]
  refine (yfound_bad sb r (M.findId r) (M.findErr r) he w h.pos h.lt (fun W W1=>StoreRep (Grow F W W1) W1 sb (M.findSt r)) hf).mono ?_
  rintro e w' ⟨rfl,W,W1,h1,h2,h3,h4⟩
  exact ⟨rfl,h3.after h.lt h1 h2 h4⟩

theorem bdd_make {F:Nat → Prop} {w:World} {sb:Nat} {M:St} (h:StoreRep F w sb M) (l:Int) (lo hi:Edge) (hlo:lo.ok) (hhi:hi.ok) :
  Calls Tryz.prog 131 #[.pointer (some ⟨sb,0,none⟩),.int .i64 l,.agg #[.int .u8 lo.tag,.int .u32 lo.to],.agg #[.int .u8 hi.tag,.int .u32 hi.to]] w fun r w'=>
   r=.returned (.tuple #[.agg #[.int .u8 (actE0 M (makeAct M 1 l lo hi (bRest M l lo hi))).tag,.int .u32 (actE0 M (makeAct M 1 l lo hi (bRest M l lo hi))).to],.int .u8 (actErr M (makeAct M 1 l lo hi (bRest M l lo hi)))]) ∧ Upd F w w' ∧ StoreRep (Grow F w w') w' sb (actSt M (makeAct M 1 l lo hi (bRest M l lo hi))):=by
 have hn:=h.wf.n16
 have hv:=fun (W:World) (hW:Keeps w W)=>store_vars (h.keeps hW)
 have hllo:=fun (W:World) (hW:Keeps w W)=>store_leads (h.keeps hW) 1 lo (l + 1) hlo
 have hlhi:=fun (W:World) (hW:Keeps w W)=>store_leads (h.keeps hW) 1 hi (l + 1) hhi
 by_cases c1:l < 0 ∨ M.n ≤ l
 ·have ev:makeAct M 1 l lo hi (bRest M l lo hi)=.inl (⟨0,0⟩,3):=if_pos c1
  rw [ev]
  by_cases c0:l < 0
  ·exact (bmake_neg sb l M.n lo hi w hn h.pos hv c0).mono fun r w' hr=>⟨hr.1,h.stay hr.2⟩
  ·exact (bmake_big sb l M.n lo hi w hn h.pos hv (by omega) (by omega)).mono fun r w' hr=>⟨hr.1,h.stay hr.2⟩
 ·have h0:0 ≤ l:=by omega
  have h1:l < M.n:=by omega
  by_cases c2:M.leads 1 lo (l + 1)=false ∨ M.leads 1 hi (l + 1)=false
  ·have ev:makeAct M 1 l lo hi (bRest M l lo hi)=.inl (⟨0,0⟩,1):=by unfold makeAct;rw [if_neg c1,if_pos c2]
   rw [ev]
   rcases bool_cases (M.leads 1 lo (l + 1)) with b1 | b1
   ·rw [b1] at hllo
    exact (bmake_lo sb l M.n lo hi w hn h.pos hv h0 h1 hllo).mono fun r w' hr=>⟨hr.1,h.stay hr.2⟩
   ·have b2:M.leads 1 hi (l + 1)=false:=by rcases c2 with c2 | c2;rw [c2] at b1;cases b1;exact c2
    rw [b1] at hllo
    rw [b2] at hlhi
    exact (bmake_hi sb l M.n lo hi w hn h.pos hv h0 h1 hllo hlhi).mono fun r w' hr=>⟨hr.1,h.stay hr.2⟩
  ·have b1:M.leads 1 lo (l + 1)=true:=by rcases bool_cases (M.leads 1 lo (l + 1)) with b | b;exact (c2 (.inl b)).elim;exact b
   have b2:M.leads 1 hi (l + 1)=true:=by rcases bool_cases (M.leads 1 hi (l + 1)) with b | b;exact (c2 (.inr b)).elim;exact b
   have ev:makeAct M 1 l lo hi (bRest M l lo hi)=bRest M l lo hi:=by unfold makeAct;rw [if_neg c1,if_neg c2]
   rw [ev]
   rw [b1] at hllo
   rw [b2] at hlhi
   by_cases s0:lo=hi
   ·have e1:bRest M l lo hi=.inl (lo,0):=if_pos s0
    rw [e1]
    exact (bmake_same sb l M.n lo hi w hn h.pos hv h0 h1 hllo hlhi s0).mono fun r w' hr=>⟨hr.1,h.stay hr.2⟩
   have hr:(⟨1,l,l,lo,hi⟩:Rec).ok:=rec_ok (by decide) h0 (by omega) ⟨h0,by omega⟩ hlo hhi
   have e1:bRest M l lo hi=.inr ⟨1,l,l,lo,hi⟩:=if_neg s0
   rw [e1]
   have hf:=fun (W:World) (hW:Keeps w W)=>bdd_found0 (h.keeps hW) ⟨1,l,l,lo,hi⟩ hr
   refine (bmake_found (fun W W1=>StoreRep (Grow F W W1) W1 sb (M.findSt ⟨1,l,l,lo,hi⟩)) sb l M.n lo hi _ _ _ w hn h.pos hv h0 h1 hllo hlhi s0 h.lt hf).mono ?_
   rintro e w' ⟨rfl,W,W1,q1,q2,q3,q4⟩
   exact ⟨rfl,q3.after h.lt q1 q2 q4⟩

theorem zdd_make {F:Nat → Prop} {w:World} {sb:Nat} {M:St} (h:StoreRep F w sb M) (l:Int) (lo hi:Edge) (hlo:lo.ok) (hhi:hi.ok) :
  Calls Tryz.prog 132 #[.pointer (some ⟨sb,0,none⟩),.int .i64 l,.agg #[.int .u8 lo.tag,.int .u32 lo.to],.agg #[.int .u8 hi.tag,.int .u32 hi.to]] w fun r w'=>
   r=.returned (.tuple #[.agg #[.int .u8 (actE0 M (makeAct M 2 l lo hi (zRest M l lo hi))).tag,.int .u32 (actE0 M (makeAct M 2 l lo hi (zRest M l lo hi))).to],.int .u8 (actErr M (makeAct M 2 l lo hi (zRest M l lo hi)))]) ∧ Upd F w w' ∧ StoreRep (Grow F w w') w' sb (actSt M (makeAct M 2 l lo hi (zRest M l lo hi))):=by
 have hn:=h.wf.n16
 have hv:=fun (W:World) (hW:Keeps w W)=>store_vars (h.keeps hW)
 have hllo:=fun (W:World) (hW:Keeps w W)=>store_leads (h.keeps hW) 2 lo (l + 1) hlo
 have hlhi:=fun (W:World) (hW:Keeps w W)=>store_leads (h.keeps hW) 2 hi (l + 1) hhi
 by_cases c1:l < 0 ∨ M.n ≤ l
 ·have ev:makeAct M 2 l lo hi (zRest M l lo hi)=.inl (⟨0,0⟩,3):=if_pos c1
  rw [ev]
  by_cases c0:l < 0
  ·exact (zmake_neg sb l M.n lo hi w hn h.pos hv c0).mono fun r w' hr=>⟨hr.1,h.stay hr.2⟩
  ·exact (zmake_big sb l M.n lo hi w hn h.pos hv (by omega) (by omega)).mono fun r w' hr=>⟨hr.1,h.stay hr.2⟩
 ·have h0:0 ≤ l:=by omega
  have h1:l < M.n:=by omega
  by_cases c2:M.leads 2 lo (l + 1)=false ∨ M.leads 2 hi (l + 1)=false
  ·have ev:makeAct M 2 l lo hi (zRest M l lo hi)=.inl (⟨0,0⟩,1):=by unfold makeAct;rw [if_neg c1,if_pos c2]
   rw [ev]
   rcases bool_cases (M.leads 2 lo (l + 1)) with b1 | b1
   ·rw [b1] at hllo
    exact (zmake_lo sb l M.n lo hi w hn h.pos hv h0 h1 hllo).mono fun r w' hr=>⟨hr.1,h.stay hr.2⟩
   ·have b2:M.leads 2 hi (l + 1)=false:=by rcases c2 with c2 | c2;rw [c2] at b1;cases b1;exact c2
    rw [b1] at hllo
    rw [b2] at hlhi
    exact (zmake_hi sb l M.n lo hi w hn h.pos hv h0 h1 hllo hlhi).mono fun r w' hr=>⟨hr.1,h.stay hr.2⟩
  ·have b1:M.leads 2 lo (l + 1)=true:=by rcases bool_cases (M.leads 2 lo (l + 1)) with b | b;exact (c2 (.inl b)).elim;exact b
   have b2:M.leads 2 hi (l + 1)=true:=by rcases bool_cases (M.leads 2 hi (l + 1)) with b | b;exact (c2 (.inr b)).elim;exact b
   have ev:makeAct M 2 l lo hi (zRest M l lo hi)=zRest M l lo hi:=by unfold makeAct;rw [if_neg c1,if_neg c2]
   rw [ev]
   rw [b1] at hllo
   rw [b2] at hlhi
   by_cases s0:hi.to=0
   ·have e1:zRest M l lo hi=.inl (lo,0):=if_pos s0
    rw [e1]
    obtain ⟨th,ta⟩:=hi
    dsimp only at s0
    subst s0
    exact (zmake_zero sb l M.n lo th w hn h.pos hv h0 h1 hllo hlhi).mono fun r w' hr=>⟨hr.1,h.stay hr.2⟩
   have hr:(⟨2,l,l,lo,hi⟩:Rec).ok:=rec_ok (by decide) h0 (by omega) ⟨h0,by omega⟩ hlo hhi
   have e1:zRest M l lo hi=.inr ⟨2,l,l,lo,hi⟩:=if_neg s0
   rw [e1]
   have hf:=fun (W:World) (hW:Keeps w W)=>zdd_found0 (h.keeps hW) ⟨2,l,l,lo,hi⟩ hr
   refine (zmake_found (fun W W1=>StoreRep (Grow F W W1) W1 sb (M.findSt ⟨2,l,l,lo,hi⟩)) sb l M.n lo hi _ _ _ w hn h.pos hv h0 h1 hllo hlhi s0 h.lt hf).mono ?_
   rintro e w' ⟨rfl,W,W1,q1,q2,q3,q4⟩
   exact ⟨rfl,q3.after h.lt q1 q2 q4⟩

theorem cbdd_make {F:Nat → Prop} {w:World} {sb:Nat} {M:St} (h:StoreRep F w sb M) (l:Int) (lo hi:Edge) (hlo:lo.ok) (hhi:hi.ok) :
  Calls Tryz.prog 133 #[.pointer (some ⟨sb,0,none⟩),.int .i64 l,.agg #[.int .u8 lo.tag,.int .u32 lo.to],.agg #[.int .u8 hi.tag,.int .u32 hi.to]] w fun r w'=>
   r=.returned (.tuple #[.agg #[.int .u8 (actE0 M (makeAct M 3 l lo hi (cRest M l lo hi))).tag,.int .u32 (actE0 M (makeAct M 3 l lo hi (cRest M l lo hi))).to],.int .u8 (actErr M (makeAct M 3 l lo hi (cRest M l lo hi)))]) ∧ Upd F w w' ∧ StoreRep (Grow F w w') w' sb (actSt M (makeAct M 3 l lo hi (cRest M l lo hi))):=by
 have hn:=h.wf.n16
 have hv:=fun (W:World) (hW:Keeps w W)=>store_vars (h.keeps hW)
 have hllo:=fun (W:World) (hW:Keeps w W)=>store_leads (h.keeps hW) 3 lo (l + 1) hlo
 have hlhi:=fun (W:World) (hW:Keeps w W)=>store_leads (h.keeps hW) 3 hi (l + 1) hhi
 by_cases c1:l < 0 ∨ M.n ≤ l
 ·have ev:makeAct M 3 l lo hi (cRest M l lo hi)=.inl (⟨0,0⟩,3):=if_pos c1
  rw [ev]
  by_cases c0:l < 0
  ·exact (cmake_neg sb l M.n lo hi w hn h.pos hv c0).mono fun r w' hr=>⟨hr.1,h.stay hr.2⟩
  ·exact (cmake_big sb l M.n lo hi w hn h.pos hv (by omega) (by omega)).mono fun r w' hr=>⟨hr.1,h.stay hr.2⟩
 ·have h0:0 ≤ l:=by omega
  have h1:l < M.n:=by omega
  by_cases c2:M.leads 3 lo (l + 1)=false ∨ M.leads 3 hi (l + 1)=false
  ·have ev:makeAct M 3 l lo hi (cRest M l lo hi)=.inl (⟨0,0⟩,1):=by unfold makeAct;rw [if_neg c1,if_pos c2]
   rw [ev]
   rcases bool_cases (M.leads 3 lo (l + 1)) with b1 | b1
   ·rw [b1] at hllo
    exact (cmake_lo sb l M.n lo hi w hn h.pos hv h0 h1 hllo).mono fun r w' hr=>⟨hr.1,h.stay hr.2⟩
   ·have b2:M.leads 3 hi (l + 1)=false:=by rcases c2 with c2 | c2;rw [c2] at b1;cases b1;exact c2
    rw [b1] at hllo
    rw [b2] at hlhi
    exact (cmake_hi sb l M.n lo hi w hn h.pos hv h0 h1 hllo hlhi).mono fun r w' hr=>⟨hr.1,h.stay hr.2⟩
  ·have b1:M.leads 3 lo (l + 1)=true:=by rcases bool_cases (M.leads 3 lo (l + 1)) with b | b;exact (c2 (.inl b)).elim;exact b
   have b2:M.leads 3 hi (l + 1)=true:=by rcases bool_cases (M.leads 3 hi (l + 1)) with b | b;exact (c2 (.inr b)).elim;exact b
   have ev:makeAct M 3 l lo hi (cRest M l lo hi)=cRest M l lo hi:=by unfold makeAct;rw [if_neg c1,if_neg c2]
   rw [ev]
   rw [b1] at hllo
   rw [b2] at hlhi
   by_cases s0:lo=hi
   ·have e1:cRest M l lo hi=.inl (lo,0):=if_pos s0
    rw [e1]
    exact (cmake_same sb l M.n lo hi w hn h.pos hv h0 h1 hllo hlhi s0).mono fun r w' hr=>⟨hr.1,h.stay hr.2⟩
   have hr:(⟨3,l,l,lo,hi⟩:Rec).ok:=rec_ok (by decide) h0 (by omega) ⟨h0,by omega⟩ hlo hhi
   have hg:=fun (W:World) (hW:Keeps w W)=>store_get (h.keeps hW) lo.to hlo.2.2
   cases hk:look M.cs lo.to with
   | none=>
    rw [hk] at hg
    have e1:cRest M l lo hi=.inr ⟨3,l,l,lo,hi⟩:=by unfold cRest;rw [if_neg s0,hk]
    rw [e1]
    have hf:=fun (W:World) (hW:Keeps w W)=>cbdd_found0 (h.keeps hW) ⟨3,l,l,lo,hi⟩ hr
    refine (cmake_none (fun W W1=>StoreRep (Grow F W W1) W1 sb (M.findSt ⟨3,l,l,lo,hi⟩)) sb l M.n lo hi Rec.zero _ _ _ w hn h.pos hv h0 h1 hllo hlhi s0 hg h.lt hf).mono ?_
    rintro e w' ⟨rfl,W,W1,q1,q2,q3,q4⟩
    exact ⟨rfl,q3.after h.lt q1 q2 q4⟩
   | some r=>
    have hok:=h.fit hk
    rw [hk] at hg
    by_cases c3:r.top=l + 1
    ·by_cases c4:r.hi=hi
     ·have e1:cRest M l lo hi=.inr ⟨3,l,r.bot,r.lo,hi⟩:=by unfold cRest;rw [if_neg s0,hk];show (if r.top=l + 1 then _ else _)=_;rw [if_pos c3,if_pos c4]
      rw [e1]
      clear hr
      have hr:(⟨3,l,r.bot,r.lo,hi⟩:Rec).ok:=rec_ok (by decide) h0 (by omega) hok.bot hok.lo hhi
      obtain ⟨rf,rt,rb,rlo,rhi⟩:=r
      dsimp only at c3 c4 hr ⊢
      subst c4
      subst c3
      have hf:=fun (W:World) (hW:Keeps w W)=>cbdd_found0 (h.keeps hW) ⟨3,l,rb,rlo,rhi⟩ hr
      refine (cmake_chain (fun W W1=>StoreRep (Grow F W W1) W1 sb (M.findSt ⟨3,l,rb,rlo,rhi⟩)) sb l M.n lo rhi ⟨rf,l + 1,rb,rlo,rhi⟩ _ _ _ w hn h.pos hv h0 h1 hllo hlhi s0 hg h.lt hf).mono ?_
      rintro e w' ⟨rfl,W,W1,q1,q2,q3,q4⟩
      exact ⟨rfl,q3.after h.lt q1 q2 q4⟩
     ·have e1:cRest M l lo hi=.inr ⟨3,l,l,lo,hi⟩:=by unfold cRest;rw [if_neg s0,hk];show (if r.top=l + 1 then _ else _)=_;rw [if_pos c3,if_neg c4]
      rw [e1]
      obtain ⟨rf,rt,rb,rlo,rhi⟩:=r
      dsimp only at c3 c4
      subst c3
      have hf:=fun (W:World) (hW:Keeps w W)=>cbdd_found0 (h.keeps hW) ⟨3,l,l,lo,hi⟩ hr
      refine (cmake_hino (fun W W1=>StoreRep (Grow F W W1) W1 sb (M.findSt ⟨3,l,l,lo,hi⟩)) sb l M.n lo hi ⟨rf,l + 1,rb,rlo,rhi⟩ _ _ _ w hn h.pos hv h0 h1 hllo hlhi s0 c4 hg h.lt hf).mono ?_
      rintro e w' ⟨rfl,W,W1,q1,q2,q3,q4⟩
      exact ⟨rfl,q3.after h.lt q1 q2 q4⟩
    ·have e1:cRest M l lo hi=.inr ⟨3,l,l,lo,hi⟩:=by unfold cRest;rw [if_neg s0,hk];show (if r.top=l + 1 then _ else _)=_;rw [if_neg c3]
     rw [e1]
     have hf:=fun (W:World) (hW:Keeps w W)=>cbdd_found0 (h.keeps hW) ⟨3,l,l,lo,hi⟩ hr
     refine (cmake_top (fun W W1=>StoreRep (Grow F W W1) W1 sb (M.findSt ⟨3,l,l,lo,hi⟩)) sb l M.n lo hi r _ _ _ w hn h.pos hv h0 h1 hllo hlhi s0 c3 hok.top.1 hok.top.2 hg h.lt hf).mono ?_
     rintro e w' ⟨rfl,W,W1,q1,q2,q3,q4⟩
     exact ⟨rfl,q3.after h.lt q1 q2 q4⟩

theorem czdd_make {F:Nat → Prop} {w:World} {sb:Nat} {M:St} (h:StoreRep F w sb M) (l:Int) (lo hi:Edge) (hlo:lo.ok) (hhi:hi.ok) :
  Calls Tryz.prog 134 #[.pointer (some ⟨sb,0,none⟩),.int .i64 l,.agg #[.int .u8 lo.tag,.int .u32 lo.to],.agg #[.int .u8 hi.tag,.int .u32 hi.to]] w fun r w'=>
   r=.returned (.tuple #[.agg #[.int .u8 (actE0 M (makeAct M 4 l lo hi (qRest M l lo hi))).tag,.int .u32 (actE0 M (makeAct M 4 l lo hi (qRest M l lo hi))).to],.int .u8 (actErr M (makeAct M 4 l lo hi (qRest M l lo hi)))]) ∧ Upd F w w' ∧ StoreRep (Grow F w w') w' sb (actSt M (makeAct M 4 l lo hi (qRest M l lo hi))):=by
 have hn:=h.wf.n16
 have hv:=fun (W:World) (hW:Keeps w W)=>store_vars (h.keeps hW)
 have hllo:=fun (W:World) (hW:Keeps w W)=>store_leads (h.keeps hW) 4 lo (l + 1) hlo
 have hlhi:=fun (W:World) (hW:Keeps w W)=>store_leads (h.keeps hW) 4 hi (l + 1) hhi
 by_cases c1:l < 0 ∨ M.n ≤ l
 ·have ev:makeAct M 4 l lo hi (qRest M l lo hi)=.inl (⟨0,0⟩,3):=if_pos c1
  rw [ev]
  by_cases c0:l < 0
  ·exact (qmake_neg sb l M.n lo hi w hn h.pos hv c0).mono fun r w' hr=>⟨hr.1,h.stay hr.2⟩
  ·exact (qmake_big sb l M.n lo hi w hn h.pos hv (by omega) (by omega)).mono fun r w' hr=>⟨hr.1,h.stay hr.2⟩
 ·have h0:0 ≤ l:=by omega
  have h1:l < M.n:=by omega
  by_cases c2:M.leads 4 lo (l + 1)=false ∨ M.leads 4 hi (l + 1)=false
  ·have ev:makeAct M 4 l lo hi (qRest M l lo hi)=.inl (⟨0,0⟩,1):=by unfold makeAct;rw [if_neg c1,if_pos c2]
   rw [ev]
   rcases bool_cases (M.leads 4 lo (l + 1)) with b1 | b1
   ·rw [b1] at hllo
    exact (qmake_lo sb l M.n lo hi w hn h.pos hv h0 h1 hllo).mono fun r w' hr=>⟨hr.1,h.stay hr.2⟩
   ·have b2:M.leads 4 hi (l + 1)=false:=by rcases c2 with c2 | c2;rw [c2] at b1;cases b1;exact c2
    rw [b1] at hllo
    rw [b2] at hlhi
    exact (qmake_hi sb l M.n lo hi w hn h.pos hv h0 h1 hllo hlhi).mono fun r w' hr=>⟨hr.1,h.stay hr.2⟩
  ·have b1:M.leads 4 lo (l + 1)=true:=by rcases bool_cases (M.leads 4 lo (l + 1)) with b | b;exact (c2 (.inl b)).elim;exact b
   have b2:M.leads 4 hi (l + 1)=true:=by rcases bool_cases (M.leads 4 hi (l + 1)) with b | b;exact (c2 (.inr b)).elim;exact b
   have ev:makeAct M 4 l lo hi (qRest M l lo hi)=qRest M l lo hi:=by unfold makeAct;rw [if_neg c1,if_neg c2]
   rw [ev]
   rw [b1] at hllo
   rw [b2] at hlhi
   by_cases s0:hi.to=0
   ·have e1:qRest M l lo hi=.inl (lo,0):=if_pos s0
    rw [e1]
    obtain ⟨th,ta⟩:=hi
    dsimp only at s0
    subst s0
    exact (qmake_zero sb l M.n lo th w hn h.pos hv h0 h1 hllo hlhi).mono fun r w' hr=>⟨hr.1,h.stay hr.2⟩
   have hr:(⟨4,l,l,lo,hi⟩:Rec).ok:=rec_ok (by decide) h0 (by omega) ⟨h0,by omega⟩ hlo hhi
   have hg:=fun (W:World) (hW:Keeps w W)=>store_get (h.keeps hW) lo.to hlo.2.2
   cases hk:look M.cs lo.to with
   | none=>
    rw [hk] at hg
    have e1:qRest M l lo hi=.inr ⟨4,l,l,lo,hi⟩:=by unfold qRest;rw [if_neg s0,hk]
    rw [e1]
    have hf:=fun (W:World) (hW:Keeps w W)=>czdd_found0 (h.keeps hW) ⟨4,l,l,lo,hi⟩ hr
    refine (qmake_none (fun W W1=>StoreRep (Grow F W W1) W1 sb (M.findSt ⟨4,l,l,lo,hi⟩)) sb l M.n lo hi Rec.zero _ _ _ w hn h.pos hv h0 h1 hllo hlhi s0 hg h.lt hf).mono ?_
    rintro e w' ⟨rfl,W,W1,q1,q2,q3,q4⟩
    exact ⟨rfl,q3.after h.lt q1 q2 q4⟩
   | some r=>
    have hok:=h.fit hk
    rw [hk] at hg
    by_cases c4:lo=hi
    ·by_cases c3:r.top=l + 1
     ·have e1:qRest M l lo hi=.inr ⟨4,l,r.bot,r.lo,r.hi⟩:=by unfold qRest;rw [if_neg s0,hk];show (if lo=hi then _ else _)=_;rw [if_pos c4,if_pos c3]
      rw [e1]
      clear hr
      have hr:(⟨4,l,r.bot,r.lo,r.hi⟩:Rec).ok:=rec_ok (by decide) h0 (by omega) hok.bot hok.lo hok.hi
      obtain ⟨rf,rt,rb,rlo,rhi⟩:=r
      dsimp only at c3 c4 hr ⊢
      subst c4
      subst c3
      have hf:=fun (W:World) (hW:Keeps w W)=>czdd_found0 (h.keeps hW) ⟨4,l,rb,rlo,rhi⟩ hr
      refine (qmake_chain (fun W W1=>StoreRep (Grow F W W1) W1 sb (M.findSt ⟨4,l,rb,rlo,rhi⟩)) sb l M.n lo ⟨rf,l + 1,rb,rlo,rhi⟩ _ _ _ w hn h.pos hv h0 h1 hllo hlhi s0 hg h.lt hf).mono ?_
      rintro e w' ⟨rfl,W,W1,q1,q2,q3,q4⟩
      exact ⟨rfl,q3.after h.lt q1 q2 q4⟩
     ·have e1:qRest M l lo hi=.inr ⟨4,l,l,lo,hi⟩:=by unfold qRest;rw [if_neg s0,hk];show (if lo=hi then _ else _)=_;rw [if_pos c4,if_neg c3]
      rw [e1]
      subst c4
      have hf:=fun (W:World) (hW:Keeps w W)=>czdd_found0 (h.keeps hW) ⟨4,l,l,lo,lo⟩ hr
      refine (qmake_top (fun W W1=>StoreRep (Grow F W W1) W1 sb (M.findSt ⟨4,l,l,lo,lo⟩)) sb l M.n lo r _ _ _ w hn h.pos hv h0 h1 hllo hlhi s0 c3 hok.top.1 hok.top.2 hg h.lt hf).mono ?_
      rintro e w' ⟨rfl,W,W1,q1,q2,q3,q4⟩
      exact ⟨rfl,q3.after h.lt q1 q2 q4⟩
    ·have e1:qRest M l lo hi=.inr ⟨4,l,l,lo,hi⟩:=by unfold qRest;rw [if_neg s0,hk];show (if lo=hi then _ else _)=_;rw [if_neg c4]
     rw [e1]
     have hf:=fun (W:World) (hW:Keeps w W)=>czdd_found0 (h.keeps hW) ⟨4,l,l,lo,hi⟩ hr
     refine (qmake_lono (fun W W1=>StoreRep (Grow F W W1) W1 sb (M.findSt ⟨4,l,l,lo,hi⟩)) sb l M.n lo hi r _ _ _ w hn h.pos hv h0 h1 hllo hlhi s0 c4 hok.top.1 hok.top.2 hg h.lt hf).mono ?_
     rintro e w' ⟨rfl,W,W1,q1,q2,q3,q4⟩
     exact ⟨rfl,q3.after h.lt q1 q2 q4⟩

open Go Go.RowKit

theorem bs_convert {w:World} {a:Option Addr} {ps:List Int} (h:BsAt w a ps) (cap:Nat):(convert 24 9 (.slice a ps.length cap)).run Tryz.prog w=.ok (.string (strOfNums ps)) w:=by
 cases a with
 | none=>
  have hn:ps=[]:=by
   cases ps with
   | nil=>rfl
   | cons x xs=>obtain ⟨b,off,h1,_⟩:=h 0 x rfl;cases h1
  subst hn
  rw [run_convert_bytes_nil w 24 5 (by kernel_rfl) (by kernel_rfl) _ cap 9 (by kernel_rfl)]
  rfl
 | some ad=>
  cases ps with
  | nil=>
   obtain ⟨b,off,fr⟩:=ad
   rw [run_convert_bytes_string w 24 9 5 _ _ cap (by kernel_rfl) (by kernel_rfl) (by kernel_rfl)]
   have:=run_bytesToString (P:=Tryz.prog) w ⟨b,off,fr⟩ 0 cap [] (by rfl)
   show _=Result.ok (Value.string ByteArray.empty) w
   simpa using this
  | cons x xs=>
   obtain ⟨b,off,h1,_⟩:=h 0 x rfl
   cases h1
   refine run_convert_bytes_arg w 24 5 (by kernel_rfl) (by kernel_rfl) b off _ cap (x :: xs) rfl (fun i hi=>?_) 9 (by kernel_rfl)
   obtain ⟨b2,off2,e1,e2⟩:=h i _ (List.getElem?_eq_getElem hi)
   cases e1
   rw [e2]
   simp [List.getD,List.getElem?_eq_getElem hi]

theorem strs_same {ps qs:List Int} (h1:IsBs ps) (h2:IsBs qs):strOfNums ps=strOfNums qs ↔ ps=qs:=by
 refine ⟨fun h=>?_,fun h=>by rw [h]⟩
 have hm:ps.map (fun n=>UInt8.ofNat n.toNat)=qs.map (fun n=>UInt8.ofNat n.toNat):=by
  rw [← strOfNums_data,← strOfNums_data,h]
 have hl:ps.length=qs.length:=by simpa using congrArg List.length hm
 refine List.ext_getElem hl (fun i hi hj=>?_)
 have he:(ps.map (fun n=>UInt8.ofNat n.toNat))[i]'(by simpa using hi)=(qs.map (fun n=>UInt8.ofNat n.toNat))[i]'(by simpa using hj):=by simp only [hm]
 rw [List.getElem_map,List.getElem_map] at he
 have r1:=h1 _ (List.getElem_mem hi)
 have r2:=h2 _ (List.getElem_mem hj)
 have e3:=congrArg UInt8.toNat he
 rw [UInt8.toNat_ofNat',UInt8.toNat_ofNat'] at e3
 omega

theorem bytesEqual_calls (a b:Option Addr) (cap cap2:Nat) (ps qs:List Int) (w:World) (h1:BsAt w a ps) (h2:BsAt w b qs) (i1:IsBs ps) (i2:IsBs qs) :
  Calls Tryz.prog 83 #[.slice a ps.length cap,.slice b qs.length cap2] w fun e w'=>e=.returned (.bool (decide (ps=qs))) ∧ w=w':=by
 have c1:=bs_convert h1 cap
 have c2:=bs_convert h2 cap2
 have hd:((strOfNums ps).toList == (strOfNums qs).toList)=decide (ps=qs):=by
  rw [Bool.eq_iff_iff,beq_iff_eq,decide_eq_true_iff,ByteArray.toList_eq,ByteArray.toList_eq,← strs_same i1 i2]
  refine ⟨fun h=>?_,fun h=>by rw [h]⟩
  have h2:(strOfNums ps).data=(strOfNums qs).data:=Array.toList_inj.1 h
  cases hp:strOfNums ps
  cases hq:strOfNums qs
  rw [hp,hq] at h2
  simp only at h2
  rw [h2]
 obtain ⟨N,hN⟩:∃ N,N=ps.length:=⟨_,rfl⟩
 obtain ⟨K,hK⟩:∃ K,K=qs.length:=⟨_,rfl⟩
 rw [← hN] at c1 ⊢
 rw [← hK] at c2 ⊢
 obtain ⟨s1,hs1⟩:∃ s,s=strOfNums ps:=⟨_,rfl⟩
 obtain ⟨s2,hs2⟩:∃ s,s=strOfNums qs:=⟨_,rfl⟩
 rw [← hs1] at c1 hd
 rw [← hs2] at c2 hd
 have HD:=Lib.hid hd
 clear h1 h2 i1 i2 hN hK hs1 hs2 hd
 go_enter Tryz.func83,Tryz.ntmps83
 go_wp2
 go_ret
 exact ⟨by rw [← HD.out];rfl,rfl⟩

set_option maxRecDepth 100000 in
theorem intsEqual_calls (a b:Option Addr) (cap cap2:Nat) (ps qs:List Int) (w:World) (h1:IntsAt w a ps) (h2:IntsAt w b qs) (hl1:ps.length ≤ 1073741824) (hl2:qs.length ≤ 1073741824) :
  Calls Tryz.prog 39 #[.slice a ps.length cap,.slice b qs.length cap2] w fun e w'=>e=.returned (.bool (decide (ps=qs))) ∧ Keeps w w':=by
 by_cases hne:ps.length=qs.length
 ·obtain ⟨N,hN⟩:∃ N,N=ps.length:=⟨_,rfl⟩
  have hM:N=qs.length:=hN.trans hne
  rw [← hM,← hN]
  rw [← hN] at hl1
  have H1:=Lib.hid h1
  have H2:=Lib.hid h2
  have HN:=Lib.hid hN
  have HM:=Lib.hid hM
  clear h1 h2 hN hM hne hl2
  go_enter Tryz.func39,Tryz.ntmps39
  go_wp2
  go_loopg [13] N (fun gk s13 wr=>∃ d:Nat,s13=.int .i64 (d:Int) ∧ d + gk=N ∧ (∀ i,i < d → ps[i]?=qs[i]?) ∧ Keeps w wr)
  case atStart=>exact ⟨0,rfl,by omega,fun i hi=>by omega,by (exact kp)⟩
  case round=>
   obtain ⟨d,rfl,hd,hn,hk⟩:=hrel
   have HNN:=Lib.hid hn
   clear hn
   by_cases hlt:d < N
   ·obtain ⟨x,hx⟩:∃ b,ps[d]?=some b:=⟨_,List.getElem?_eq_getElem (by rw [← HN.out];exact hlt)⟩
    obtain ⟨y,hy⟩:∃ b,qs[d]?=some b:=⟨_,List.getElem?_eq_getElem (by rw [← HM.out];exact hlt)⟩
    obtain ⟨b1,o1,rfl,c0⟩:=H1.out d x hx
    obtain ⟨b2,o2,rfl,c1⟩:=H2.out d y hy
    replace c0:=hk.cell c0
    replace c1:=hk.cell c1
    have HX:=Lib.hid hx
    have HY:=Lib.hid hy
    have i0:(0:Int) ≤ (d:Int):=by omega
    have i1:(d:Int) < (N:Int):=by omega
    clear hx hy
    by_cases hab:x=y
    ·subst hab
     go_wp2_with fail
     go_quiet (fail)
     go_wp2
     go_roundg (gk - 1)
     case rel=>
      refine ⟨d + 1,by simp,by omega,fun i hi=>?_,by (exact kp)⟩
      by_cases e:i=d
      ·subst e;rw [HX.out,HY.out]
      ·exact HNN.out i (by omega)
     case measure=>omega
    ·have gab:(x != y)=true:=by simp [hab]
     have hf:Hid (¬ ps=qs):=Lib.hid (fun e=>by have:=HX.out;rw [e,HY.out] at this;exact hab (Option.some.inj this).symm)
     go_wp2_with fail
     go_quiet (fail)
     go_wp2
     go_ret
     exact ⟨by rw [decide_eq_false hf.out];rfl,by (exact kp)⟩
   ·have hg0:d=N:=by omega
    have hh:ps=qs:=by
     apply List.ext_getElem?
     intro i
     by_cases hi:i < d
     ·exact HNN.out i hi
     ·rw [List.getElem?_eq_none (by rw [← HN.out];omega),List.getElem?_eq_none (by rw [← HM.out];omega)]
    have HH:=Lib.hid hh
    clear hg0 hh
    go_wp2_with fail
    go_ret
    exact ⟨by rw [decide_eq_true HH.out];rfl,hk⟩
 ·have hf:decide (ps=qs)=false:=decide_eq_false (fun e=>hne (by rw [e]))
  obtain ⟨N,hN⟩:∃ N,N=ps.length:=⟨_,rfl⟩
  obtain ⟨K,hK⟩:∃ K,K=qs.length:=⟨_,rfl⟩
  rw [hf]
  rw [← hN,← hK] at hne ⊢
  have gne:((N:Int) != (K:Int))=true:=by simp;omega
  clear h1 h2 hl1 hl2 hN hK hf hne
  go_enter Tryz.func39,Tryz.ntmps39
  go_wp2
  go_ret
  exact ⟨rfl,by (exact kp)⟩

end Go.Proofs.YtfpjogpjocedaaaGreat
