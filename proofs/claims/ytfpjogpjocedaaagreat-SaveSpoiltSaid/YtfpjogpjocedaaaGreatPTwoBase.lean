/-
  Plainly: an edge made from below of a table, as a list; the same edge just for the same table.
-/
import Derived.Test.YtfpjogpjocedaaaGreatPSaveP
import Derived.Test.YtfpjogpjocedaaaGreatPSaveW
namespace Go.Proofs.YtfpjogpjocedaaaGreat
set_option linter.unusedSimpArgs false
set_option linter.unusedVariables false
set_option maxHeartbeats 600000
open Go.RowKit

def mkK (f:Int) (M:St) (l:Int) (lo hi:Edge):(Edge × Int) ⊕ Rec:=
 if f=5 then tAct M l lo hi else if f=3 then makeAct M 3 l lo hi (cRest M l lo hi) else if f=4 then makeAct M 4 l lo hi (qRest M l lo hi)
 else if f=1 then makeAct M 1 l lo hi (bRest M l lo hi) else makeAct M 2 l lo hi (zRest M l lo hi)

theorem mkK1 (M:St) (l:Int) (lo hi:Edge):mkK 1 M l lo hi=makeAct M 1 l lo hi (bRest M l lo hi):=rfl

theorem mkK2 (M:St) (l:Int) (lo hi:Edge):mkK 2 M l lo hi=makeAct M 2 l lo hi (zRest M l lo hi):=rfl

theorem mkK3 (M:St) (l:Int) (lo hi:Edge):mkK 3 M l lo hi=makeAct M 3 l lo hi (cRest M l lo hi):=rfl

theorem mkK4 (M:St) (l:Int) (lo hi:Edge):mkK 4 M l lo hi=makeAct M 4 l lo hi (qRest M l lo hi):=rfl

theorem mkK5 (M:St) (l:Int) (lo hi:Edge):mkK 5 M l lo hi=tAct M l lo hi:=rfl

structure Pair (f:Int) (M:St) (l:Int) (lo hi e:Edge):Prop where
 up:mkK f M l lo hi=.inl (e,0) ∨ ∃ r,mkK f M l lo hi=.inr r ∧ look M.cs e.to=some r ∧ e.tag=tagOf f r
 down:viewAct M f e l=.inl (lo,hi,0) ∨ ∃ q,viewAct M f e l=.inr q ∧ look M.cs lo.to=some q ∧ lo.tag=0 ∧ hi=(if f=4 then lo else q.hi)
 leads:M.leads f e l=true
 lo:M.leads f lo (l + 1)=true
 hi:M.leads f hi (l + 1)=true

theorem Both2.pair {f:Int} {M:St} {l:Int} {lo hi e:Edge} (h:Both2 f M l lo hi e) (hf:f=3 ∨ f=4 ∨ f=5):Pair f M l lo hi e:=by
 refine ⟨?_,h.down,(right_iff.1 h.right).1,(right_iff.1 h.lo).1,(right_iff.1 h.hi).1⟩
 have hu:=h.up
 rcases hf with rfl | rfl | rfl <;> exact hu

theorem endE_leads {M:St} (h:M.wf) {f:Int} {b:Bool} (hf:1 ≤ f ∧ f ≤ 5):M.leads f (endE f b M.n) M.n=true:=by
 have n0:=h.n0
 have n16:=h.n16
 have hlt:(endE f b M.n).to < 2:=by
  unfold endE
  split
  ·split
   ·show (1:Int) < 2;omega
   ·show (1:Int) < 2;omega
  ·show (0:Int) < 2;omega
 refine leads_iff.2 ⟨plainB_iff.2 ⟨by omega,by omega,n0,n16,n0,by omega,fun hh=>?_,fun h5 hz=>?_⟩,.inl hlt⟩
 ·unfold endE at hh ⊢
  split at hh
  ·split at hh
   ·rename_i h5
    rcases hh with hh | hh
    ·exact absurd h5 hh
    ·have hh2:(1:Int)=0:=hh
     omega
   ·rw [if_pos (by assumption),if_neg (by assumption)]
  ·rw [if_neg (by assumption)]
 ·unfold endE at hz ⊢
  split at hz
  ·rw [if_pos (by assumption),if_pos h5]
   exact ⟨by show M.n ≤ M.n;omega,by show M.n ≤ M.n;omega⟩
  ·exact absurd rfl hz

def IsT (f:Int) (M:St):Nat → List Bool → Int → Edge → Prop
 | 0,ts,l,e=>∃ b,ts=[b] ∧ e=endE f b l
 | k + 1,ts,l,e=>ts.length=2 ^ (k + 1) ∧ ∃ lo hi,IsT f M k (ts.take (2 ^ k)) (l + 1) lo ∧ IsT f M k (ts.drop (2 ^ k)) (l + 1) hi ∧ Pair f M l lo hi e

theorem IsT.leads {f:Int} {M:St} (hw:M.wf) (hf:1 ≤ f ∧ f ≤ 5) {k:Nat} {ts:List Bool} {l:Int} {e:Edge} (h:IsT f M k ts l e) (hl:l + k=M.n):M.leads f e l=true:=by
 cases k with
 | zero=>
  obtain ⟨b,_,rfl⟩:=h
  have:l=M.n:=by simpa using hl
  rw [this]
  exact endE_leads hw hf
 | succ k=>obtain ⟨_,_,_,_,_,h3⟩:=h;exact h3.leads

structure NumsD (S:List Int) (D:DataW Unit):Prop where
 isMap:Maps.IsMap D
 keys:∀ x,Maps.has D (.int .u32 x)=true ↔ x ∈ S
 vals:∀ x ∈ S,∀ z,D.atKey (.int .u32 x) z=.lit (.int .u64 (S.idxOf x:Int))
 size:Maps.size D=S.length

theorem NumsD.empty:NumsD [] (.map []):=by
 refine ⟨Maps.isMap_empty,fun x=>?_,fun x hx=>by simp at hx,rfl⟩
 simp [Maps.has_eq]

theorem NumsD.put {S:List Int} {D:DataW Unit} (h:NumsD S D) (ht:Maps.Tidy D) {x:Int} (hx:x ∉ S):NumsD (S ++ [x]) (D.put (.int .u32 x) (.lit (.int .u64 (S.length:Int)))):=by
 have hno:Maps.has D (.int .u32 x)=false:=by
  cases hb:Maps.has D (.int .u32 x) with
  | false=>rfl
  | true=>exact absurd ((h.keys x).1 hb) hx
 refine ⟨h.isMap.put _ _,fun y=>?_,fun y hy z=>?_,?_⟩
 ·by_cases hs:y=x
  ·subst hs
   rw [Maps.has_put_same h.isMap (show WideAt.IsKeyLit (.int .u32 y) from True.intro)]
   simp
  ·rw [Maps.has_put_other (fun e=>hs (by cases e;rfl)),h.keys y]
   simp [hs]
 ·by_cases hs:y=x
  ·subst hs
   rw [Maps.atKey_put_same h.isMap (show WideAt.IsKeyLit (.int .u32 y) from True.intro),List.idxOf_append,if_neg hx]
   simp
  ·have hyS:y ∈ S:=by
    rcases List.mem_append.1 hy with hy | hy
    ·exact hy
    ·exact absurd (List.mem_singleton.1 hy) hs
   rw [Maps.atKey_put_other (fun e=>hs (by cases e;rfl)),h.vals y hyS,idxOf_app hyS]
 ·rw [Maps.size_put ht,hno]
  simp [h.size]

def PenMap (w:World) (mb:Nat) (S:List Int):Prop:=∃ D,w.ownsMap Tryz.prog 35 (plainElem (H:=Unit) Tryz.prog 60) mb S.length D ∧ NumsD S D

theorem PenMap.keeps {w w':World} {mb:Nat} {S:List Int} (h:PenMap w mb S) (hk:Keeps w w'):PenMap w' mb S:=by
 obtain ⟨D,h1,h2⟩:=h
 exact ⟨D,h1.kept hk.none (by simp),h2⟩

theorem PenMap.block {w:World} {mb:Nat} {S:List Int} (h:PenMap w mb S):∃ es clock,w.heap[mb]?=some (.map es clock):=by
 obtain ⟨D,⟨es,clock,hb,_⟩,_⟩:=h
 exact ⟨es,clock,hb⟩

theorem PenMap.ne {w:World} {mb:Nat} {S:List Int} (h:PenMap w mb S) {k:Nat} {cs:Array Value} {t:TypeId} {q:Nat × Nat} (hk:w.heap[k]?=some (.cells cs t q)):k ≠ mb:=by
 obtain ⟨es,clock,hb⟩:=h.block
 intro e
 subst e
 rw [hb] at hk
 cases hk

theorem PenMap.upd {w w':World} {mb:Nat} {S:List Int} {G:Nat → Prop} (h:PenMap w mb S) (hu:Upd G w w') (hg:¬ G mb):PenMap w' mb S:=by
 obtain ⟨D,⟨es,clock,hb,rest⟩,h2⟩:=h
 exact ⟨D,⟨es,clock,(hu.block mb (lt_of_heap hb) hg).trans hb,rest⟩,h2⟩

end Go.Proofs.YtfpjogpjocedaaaGreat
