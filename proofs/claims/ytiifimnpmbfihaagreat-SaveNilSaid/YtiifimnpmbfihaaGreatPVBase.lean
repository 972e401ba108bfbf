/-
  What View does, over the state (printed by wip/mk_vstore.py).
-/
import Derived.Test.YtiifimnpmbfihaaGreatPTMakeA
namespace Go.Proofs.YtiifimnpmbfihaaGreat
set_option linter.unusedSimpArgs false
set_option linter.unusedVariables false
set_option maxHeartbeats 600000
open Go.RowKit

theorem cbdd_found0 {F:Nat → Prop} {w:World} {sb:Nat} {M:St} (h:StoreRep F w sb M) (r:Rec) (hr:r.ok) :
  Calls Tryz.prog 279 #[.pointer (some ⟨sb,0,none⟩),.agg #[.int .u8 r.form,.int .u8 r.top,.int .u8 r.bot,.int .u8 r.lo.tag,.int .u32 r.lo.to,.int .u8 r.hi.tag,.int .u32 r.hi.to]] w fun e w'=>e=.returned (.tuple #[.agg #[.int .u8 (foundE M 0 r).tag,.int .u32 (foundE M 0 r).to],.int .u8 (M.findErr r)]) ∧ Upd F w w' ∧ StoreRep (Grow F w w') w' sb (M.findSt r):=by
 have hf:=fun (W:World) (hW:Keeps w W)=>store_find (h.keeps hW) r hr
 by_cases he:M.findErr r=0
 ·have e1:foundE M 0 r=⟨0,M.findId r⟩:=if_pos he
  rw [e1,he]
  rw [he] at hf
  refine (cfound_ok sb r (M.findId r) w h.pos h.lt (fun W W1=>StoreRep (Grow F W W1) W1 sb (M.findSt r)) hf).mono ?_
  rintro e w' ⟨rfl,W,W1,h1,h2,h3,h4⟩
  exact ⟨rfl,h3.after h.lt h1 h2 h4⟩
 ·have e1:foundE M 0 r=⟨0,0⟩:=if_neg he
  rw [e1]
  refine (cfound_bad sb r (M.findId r) (M.findErr r) he w h.pos h.lt (fun W W1=>StoreRep (Grow F W W1) W1 sb (M.findSt r)) hf).mono ?_
  rintro e w' ⟨rfl,W,W1,h1,h2,h3,h4⟩
  exact ⟨rfl,h3.after h.lt h1 h2 h4⟩

theorem czdd_found0 {F:Nat → Prop} {w:World} {sb:Nat} {M:St} (h:StoreRep F w sb M) (r:Rec) (hr:r.ok) :
  Calls Tryz.prog 280 #[.pointer (some ⟨sb,0,none⟩),.agg #[.int .u8 r.form,.int .u8 r.top,.int .u8 r.bot,.int .u8 r.lo.tag,.int .u32 r.lo.to,.int .u8 r.hi.tag,.int .u32 r.hi.to]] w fun e w'=>e=.returned (.tuple #[.agg #[.int .u8 (foundE M 0 r).tag,.int .u32 (foundE M 0 r).to],.int .u8 (M.findErr r)]) ∧ Upd F w w' ∧ StoreRep (Grow F w w') w' sb (M.findSt r):=by
 have hf:=fun (W:World) (hW:Keeps w W)=>store_find (h.keeps hW) r hr
 by_cases he:M.findErr r=0
 ·have e1:foundE M 0 r=⟨0,M.findId r⟩:=if_pos he
  rw [e1,he]
  rw [he] at hf
  refine (zfound_ok sb r (M.findId r) w h.pos h.lt (fun W W1=>StoreRep (Grow F W W1) W1 sb (M.findSt r)) hf).mono ?_
  rintro e w' ⟨rfl,W,W1,h1,h2,h3,h4⟩
  exact ⟨rfl,h3.after h.lt h1 h2 h4⟩
 ·have e1:foundE M 0 r=⟨0,0⟩:=if_neg he
  rw [e1]
  refine (zfound_bad sb r (M.findId r) (M.findErr r) he w h.pos h.lt (fun W W1=>StoreRep (Grow F W W1) W1 sb (M.findSt r)) hf).mono ?_
  rintro e w' ⟨rfl,W,W1,h1,h2,h3,h4⟩
  exact ⟨rfl,h3.after h.lt h1 h2 h4⟩

end Go.Proofs.YtiifimnpmbfihaaGreat
