/-
  Plainly: steps there and back; right roots come back as they were.
-/
import Derived.Test.YtiifimnpmbfihaaGreatPIsT18
import Derived.Test.YtiifimnpmbfihaaGreatPSwapG
namespace Go.Proofs.YtiifimnpmbfihaaGreat
set_option linter.unusedSimpArgs false
set_option linter.unusedVariables false
set_option maxHeartbeats 600000

theorem tabE_of_tabP {M:St} {ps:List Int} {f:Int} {e e':Edge} (hp:permB ps=true) (hn:M.n=(ps.length:Int)) (h:tabP M ps f e=tabP M ps f e'):tabE M f e 0=tabE M f e' 0:=by
 apply List.ext_getElem?
 intro y
 have hl:(tabE M f e 0).length=2 ^ ps.length:=by rw [tabE_len];congr 1;omega
 have hl':(tabE M f e' 0).length=2 ^ ps.length:=by rw [tabE_len];congr 1;omega
 by_cases hy:y < 2 ^ ps.length
 ·obtain ⟨X,hX,rfl⟩:=dnN_onto hp hy
  rw [tabE_dnN hn,tabE_dnN hn]
  have h1:=tabP_get (M:=M) (f:=f) (e:=e) hX
  have h2:=tabP_get (M:=M) (f:=f) (e:=e') hX
  rw [h] at h1
  rw [← h1,h2]
 ·rw [List.getElem?_eq_none (by omega),List.getElem?_eq_none (by omega)]

open Go.RowKit

structure Sit (F Fo:Nat → Prop) (w:World) (sb ob:Nat) (M:St) (ps:List Int):Prop where
 rep:StoreRep F w sb M
 ord:OrdRep Fo w ob ps
 dis:∀ k,F k → ¬ Fo k
 n:M.n=(ps.length:Int)
 room:M.room < 1048576

def RootsIn (F Fo:Nat → Prop) (w:World) (a:Option Addr) (rs:List (Int × Edge)):Prop:=∀ W,Upd (fun j=>F j ∨ Fo j) w W → IsRoots W a rs

def EdgesIn (F Fo:Nat → Prop) (w:World) (a:Option Addr) (es:List Edge):Prop:=∀ W,Upd (fun j=>F j ∨ Fo j) w W → EdgesAt W a es

theorem upd_chain {F Fo F1:Nat → Prop} {w w1 W:World} (hF:∀ j,F1 j → F j ∨ w.heap.size ≤ j) (h:Upd (fun j=>F j ∨ Fo j) w w1) (k:Upd (fun j=>F1 j ∨ Fo j) w1 W):Upd (fun j=>F j ∨ Fo j) w W:=
 h.later k (fun i hi hh=>by
  rcases hh with hh | hh
  ·rcases hF i hh with q | q
   ·exact .inl q
   ·omega
  ·exact .inr hh)

theorem EdgesIn.next {F Fo F1:Nat → Prop} {w w1:World} {a:Option Addr} {es:List Edge} (h:EdgesIn F Fo w a es) (hF:∀ j,F1 j → F j ∨ w.heap.size ≤ j) (hu:Upd (fun j=>F j ∨ Fo j) w w1):EdgesIn F1 Fo w1 a es:=fun W hW=>h W (upd_chain hF hu hW)

structure Stepped (F Fo:Nat → Prop) (w:World) (sb ob:Nat) (M:St) (ps:List Int) (ss:List Nat) (rs:List (Int × Edge)) (w':World) (g:Nat) (es:List Edge) (M':St) (F':Nat → Prop):Prop where
 sit:Sit F' Fo w' sb ob M' (runL ps ss)
 sub:∀ j,F' j → F j ∨ w.heap.size ≤ j
 upd:Upd (fun j=>F j ∨ Fo j) w w'
 edges:EdgesIn F' Fo w' (some ⟨g,0,none⟩) es
 roots:RootsOk ps.length ss M M' rs es
 went:Went M M' (((ss.length * rs.length:Nat):Int) * 62)

theorem AllOut.stepped {F Fo:Nat → Prop} {w w':World} {sb ob:Nat} {M:St} {ps:List Int} {ss:List Nat} {rs:List (Int × Edge)} {r:Ending} (hS:Sit F Fo w sb ob M ps) (h:AllOut F Fo w sb ob M ps ss rs 62 r w') :
  ∃ g es M' F',r=.returned (.tuple #[.slice (some ⟨g,0,none⟩) rs.length rs.length,.int .u8 0]) ∧ Stepped F Fo w sb ob M ps ss rs w' g es M' F':=by
 obtain ⟨g,es,M',F',rfl,hRow,hg,hRO,hS5,hF5,hgF,hO5,hU,hWt⟩:=h
 have hxok:∀ e ∈ es,e.ok:=fun e he=>by
  obtain ⟨k,hk⟩:=List.mem_iff_getElem?.1 he
  have hki:=(List.getElem?_eq_some_iff.1 hk).1
  exact (hRO.2 k _ e (List.getElem?_eq_getElem (by rw [← hRO.1];exact hki)) hk).ok
 have hgFo:¬ Fo g:=fun hh=>by have:=hS.ord.lt g hh;omega
 refine ⟨g,es,M',F',rfl,⟨hS5,hO5,fun k h1 h2=>?_,?_,by rw [hWt.room];exact hS.room⟩,hF5,hU,fun W hW=>?_,hRO,hWt⟩
 ·rcases hF5 k h1 with q | q
  ·exact hS.dis k q h2
  ·have:=hS.ord.lt k h2;omega
 ·rw [hWt.ext.n,hS.n,runL_len]
 ·exact (hRow.keep hW (fun hh=>by
   rcases hh with hh | hh
   ·exact hgF hh
   ·exact hgFo hh)).at hxok

theorem mayL_ok {M:St} (hw:M.wf):∀ {rs:List (Int × Edge)},(∀ r ∈ rs,(1 ≤ r.1 ∧ r.1 ≤ 5) ∧ M.leads r.1 r.2 0=true) → mayL M rs=0:=by
 intro rs
 induction rs with
 | nil=>intro _;rfl
 | cons r rs ih=>
  intro h
  have h1:=h r (by simp)
  have e:mayC M r.1 r.2 0=0:=by rw [mayC_0 hw,if_neg (by simp [isFormB,h1.1.1,h1.1.2]),if_neg (by rw [h1.2];simp)]
  rw [mayL_cons,if_pos e]
  exact ih (fun q hq=>h q (by simp [hq]))

theorem cost62 {n:Int} (hn:n ≤ 5):∀ s:Nat,(s:Int) + 1 < n → costS (s:Int) 0 ≤ 62:=fun s hs=>by
 have hss:s=0 ∨ s=1 ∨ s=2 ∨ s=3:=by omega
 rcases hss with rfl | rfl | rfl | rfl <;> decide

theorem Sit.keeps {F Fo:Nat → Prop} {w w':World} {sb ob:Nat} {M:St} {ps:List Int} (h:Sit F Fo w sb ob M ps) (hk:Keeps w w'):Sit F Fo w' sb ob M ps:=⟨h.rep.keeps hk,h.ord.keeps hk,h.dis,h.n,h.room⟩

theorem EdgesIn.keeps {F Fo:Nat → Prop} {w w':World} {a:Option Addr} {es:List Edge} (h:EdgesIn F Fo w a es) (hk:Keeps w w'):EdgesIn F Fo w' a es:=fun W hW=>h W ((hk.upd _).trans' hW)

theorem EdgesIn.now {F Fo:Nat → Prop} {w:World} {a:Option Addr} {es:List Edge} (h:EdgesIn F Fo w a es):EdgesAt w a es:=h w (Upd.refl _ _)

theorem low_next {F Fo F1:Nat → Prop} {w w0:World} (h:∀ k,F k ∨ Fo k → w.heap.size ≤ k) (hs:w.heap.size ≤ w0.heap.size) (hsub:∀ j,F1 j → F j ∨ w0.heap.size ≤ j):∀ k,F1 k ∨ Fo k → w.heap.size ≤ k:=fun k hk=>by
 rcases hk with hk | hk
 ·rcases hsub k hk with q | q
  ·exact h k (.inl q)
  ·omega
 ·exact h k (.inr hk)

end Go.Proofs.YtiifimnpmbfihaaGreat
