/-
  What Make of the forms 1 to 4 does, over the state (printed by wip/mk_mstore.py).
-/
import Derived.Test.YtiifimnpmbfihaaGreatPVBase
namespace Go.Proofs.YtiifimnpmbfihaaGreat
set_option linter.unusedSimpArgs false
set_option linter.unusedVariables false
set_option maxHeartbeats 600000
open Go.RowKit

def bRest (_:St) (l:Int) (lo hi:Edge):(Edge × Int) ⊕ Rec:=if lo=hi then .inl (lo,0) else .inr ⟨1,l,l,lo,hi⟩

def zRest (_:St) (l:Int) (lo hi:Edge):(Edge × Int) ⊕ Rec:=if hi.to=0 then .inl (lo,0) else .inr ⟨2,l,l,lo,hi⟩

def cRest (M:St) (l:Int) (lo hi:Edge):(Edge × Int) ⊕ Rec:=
 if lo=hi then .inl (lo,0) else match look M.cs lo.to with
  | none=>.inr ⟨3,l,l,lo,hi⟩
  | some r=>if r.top=l + 1 then (if r.hi=hi then .inr ⟨3,l,r.bot,r.lo,hi⟩ else .inr ⟨3,l,l,lo,hi⟩) else .inr ⟨3,l,l,lo,hi⟩

def qRest (M:St) (l:Int) (lo hi:Edge):(Edge × Int) ⊕ Rec:=
 if hi.to=0 then .inl (lo,0) else match look M.cs lo.to with
  | none=>.inr ⟨4,l,l,lo,hi⟩
  | some r=>if lo=hi then (if r.top=l + 1 then .inr ⟨4,l,r.bot,r.lo,r.hi⟩ else .inr ⟨4,l,l,lo,hi⟩) else .inr ⟨4,l,l,lo,hi⟩

def makeAct (M:St) (f l:Int) (lo hi:Edge) (rest:(Edge × Int) ⊕ Rec):(Edge × Int) ⊕ Rec:=
 if l < 0 ∨ M.n ≤ l then .inl (⟨0,0⟩,3)
 else if M.leads f lo (l + 1)=false ∨ M.leads f hi (l + 1)=false then .inl (⟨0,0⟩,1) else rest

def actE0 (M:St):(Edge × Int) ⊕ Rec → Edge | .inl x=>x.1 | .inr r=>foundE M 0 r

theorem rec_ok {f l b:Int} {lo hi:Edge} (hf:0 ≤ f ∧ f ≤ 255) (h0:0 ≤ l) (h1:l ≤ 16) (hb:0 ≤ b ∧ b ≤ 255) (hlo:lo.ok) (hhi:hi.ok):(⟨f,l,b,lo,hi⟩:Rec).ok:=
 ⟨hf,⟨h0,by show l ≤ 255;omega⟩,hb,hlo,hhi⟩

theorem bdd_found0 {F:Nat → Prop} {w:World} {sb:Nat} {M:St} (h:StoreRep F w sb M) (r:Rec) (hr:r.ok) :
  Calls Tryz.prog 277 #[.pointer (some ⟨sb,0,none⟩),.agg #[.int .u8 r.form,.int .u8 r.top,.int .u8 r.bot,.int .u8 r.lo.tag,.int .u32 r.lo.to,.int .u8 r.hi.tag,.int .u32 r.hi.to]] w fun e w'=>e=.returned (.tuple #[.agg #[.int .u8 (foundE M 0 r).tag,.int .u32 (foundE M 0 r).to],.int .u8 (M.findErr r)]) ∧ Upd F w w' ∧ StoreRep (Grow F w w') w' sb (M.findSt r):=by
 have hf:=fun (W:World) (hW:Keeps w W)=>store_find (h.keeps hW) r hr
 by_cases he:M.findErr r=0
 ·have e1:foundE M 0 r=⟨0,M.findId r⟩:=if_pos he
  rw [e1,he]
  rw [he] at hf
  refine (bfound_ok sb r (M.findId r) w h.pos h.lt (fun W W1=>StoreRep (Grow F W W1) W1 sb (M.findSt r)) hf).mono ?_
  rintro e w' ⟨rfl,W,W1,h1,h2,h3,h4⟩
  exact ⟨rfl,h3.after h.lt h1 h2 h4⟩
 ·have e1:foundE M 0 r=⟨0,0⟩:=if_neg he
  rw [e1]
  refine (bfound_bad sb r (M.findId r) (M.findErr r) he w h.pos h.lt (fun W W1=>StoreRep (Grow F W W1) W1 sb (M.findSt r)) hf).mono ?_
  rintro e w' ⟨rfl,W,W1,h1,h2,h3,h4⟩
  exact ⟨rfl,h3.after h.lt h1 h2 h4⟩

theorem zdd_found0 {F:Nat → Prop} {w:World} {sb:Nat} {M:St} (h:StoreRep F w sb M) (r:Rec) (hr:r.ok) :
  Calls Tryz.prog 278 #[.pointer (some ⟨sb,0,none⟩),.agg #[.int .u8 r.form,.int .u8 r.top,.int .u8 r.bot,.int .u8 r.lo.tag,.int .u32 r.lo.to,.int .u8 r.hi.tag,.int .u32 r.hi.to]] w fun e w'=>e=.returned (.tuple #[.agg #[.int .u8 (foundE M 0 r).tag,.int .u32 (foundE M 0 r).to],.int .u8 (M.findErr r)]) ∧ Upd F w w' ∧ StoreRep (Grow F w w') w' sb (M.findSt r):=by
 have hf:=fun (W:World) (hW:Keeps w W)=>store_find (h.keeps hW) r hr
 by_cases he:M.findErr r=0
 ·have e1:foundE M 0 r=⟨0,M.findId r⟩:=if_pos he
  rw [e1,he]
  rw [he] at hf
  refine (yfound_ok sb r (M.findId r) w h.pos h.lt (fun W W1=>StoreRep (Grow F W W1) W1 sb (M.findSt r)) hf).mono ?_
  rintro e w' ⟨rfl,W,W1,h1,h2,h3,h4⟩
  exact ⟨rfl,h3.after h.lt h1 h2 h4⟩
 ·have e1:foundE M 0 r=⟨0,0⟩:=if_neg he
  rw [e1]
  refine (yfound_bad sb r (M.findId r) (M.findErr r) he w h.pos h.lt (fun W W1=>StoreRep (Grow F W W1) W1 sb (M.findSt r)) hf).mono ?_
  rintro e w' ⟨rfl,W,W1,h1,h2,h3,h4⟩
  exact ⟨rfl,h3.after h.lt h1 h2 h4⟩

end Go.Proofs.YtiifimnpmbfihaaGreat
