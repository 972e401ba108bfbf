/-
  save.pen's map: nodes by their numbers.
-/
import Derived.Test.YtiifimnpmbfihaaGreatPSaveP
import Derived.Test.YtiifimnpmbfihaaGreatPSaveW
namespace Go.Proofs.YtiifimnpmbfihaaGreat
set_option linter.unusedSimpArgs false
set_option linter.unusedVariables false
set_option maxHeartbeats 600000
open Go.RowKit

structure NumsD (S:List Int) (D:DataW Unit):Prop where
 isMap:Maps.IsMap D
 keys:∀ x,Maps.has D (.int .u32 x)=true ↔ x ∈ S
 vals:∀ x ∈ S,∀ z,D.atKey (.int .u32 x) z=.lit (.int .u64 (S.idxOf x:Int))
 size:Maps.size D=S.length

theorem NumsD.empty:NumsD [] (.map []):=by
 refine ⟨Maps.isMap_empty,fun x=>?_,fun x hx=>by simp at hx,rfl⟩
 simp [Maps.has_eq]

theorem NumsD.put {S:List Int} {D:DataW Unit} (h:NumsD S D) (ht:Maps.Tidy D) {x:Int} (hx:x ∉ S):NumsD (S ++ [x]) (D.put (.int .u32 x) (.lit (.int .u64 (S.length:Int)))):=by
 have hno:Maps.has D (.int .u32 x)=false:=by
  cases hb:Maps.has D (.int .u32 x) with
  | false=>rfl
  | true=>exact absurd ((h.keys x).1 hb) hx
 refine ⟨h.isMap.put _ _,fun y=>?_,fun y hy z=>?_,?_⟩
 ·by_cases hs:y=x
  ·subst hs
   rw [Maps.has_put_same h.isMap (show WideAt.IsKeyLit (.int .u32 y) from True.intro)]
   simp
  ·rw [Maps.has_put_other (fun e=>hs (by cases e;rfl)),h.keys y]
   simp [hs]
 ·by_cases hs:y=x
  ·subst hs
   rw [Maps.atKey_put_same h.isMap (show WideAt.IsKeyLit (.int .u32 y) from True.intro),List.idxOf_append,if_neg hx]
   simp
  ·have hyS:y ∈ S:=by
    rcases List.mem_append.1 hy with hy | hy
    ·exact hy
    ·exact absurd (List.mem_singleton.1 hy) hs
   rw [Maps.atKey_put_other (fun e=>hs (by cases e;rfl)),h.vals y hyS,idxOf_app hyS]
 ·rw [Maps.size_put ht,hno]
  simp [h.size]

def PenMap (w:World) (mb:Nat) (S:List Int):Prop:=∃ D,w.ownsMap Tryz.prog 24 (plainElem (H:=Unit) Tryz.prog 76) mb S.length D ∧ NumsD S D

theorem PenMap.keeps {w w':World} {mb:Nat} {S:List Int} (h:PenMap w mb S) (hk:Keeps w w'):PenMap w' mb S:=by
 obtain ⟨D,h1,h2⟩:=h
 exact ⟨D,h1.kept hk.none (by simp),h2⟩

theorem PenMap.block {w:World} {mb:Nat} {S:List Int} (h:PenMap w mb S):∃ es clock,w.heap[mb]?=some (.map es clock):=by
 obtain ⟨D,⟨es,clock,hb,_⟩,_⟩:=h
 exact ⟨es,clock,hb⟩

theorem PenMap.ne {w:World} {mb:Nat} {S:List Int} (h:PenMap w mb S) {k:Nat} {cs:Array Value} {t:TypeId} {q:Nat × Nat} (hk:w.heap[k]?=some (.cells cs t q)):k ≠ mb:=by
 obtain ⟨es,clock,hb⟩:=h.block
 intro e
 subst e
 rw [hb] at hk
 cases hk

theorem PenMap.upd {w w':World} {mb:Nat} {S:List Int} {G:Nat → Prop} (h:PenMap w mb S) (hu:Upd G w w') (hg:¬ G mb):PenMap w' mb S:=by
 obtain ⟨D,⟨es,clock,hb,rest⟩,h2⟩:=h
 exact ⟨D,⟨es,clock,(hu.block mb (lt_of_heap hb) hg).trans hb,rest⟩,h2⟩

end Go.Proofs.YtiifimnpmbfihaaGreat
