/-
  Which edges are right, over the state.
-/
import Derived.Test.YtiifimnpmbfihaaGreatPReachB
import Derived.Test.YtiifimnpmbfihaaGreatPWireP
namespace Go.Proofs.YtiifimnpmbfihaaGreat
set_option linter.unusedSimpArgs false
set_option linter.unusedVariables false
set_option maxHeartbeats 600000
open Go.RowKit

def wrongB (M:St) (f:Int) (r:Rec):Bool:=
 if f=5 then decide (r.hi.to=0) && decide (r.lo.tag=r.top + 1)
 else match look M.cs r.lo.to with
  | none=>false
  | some x=>decide (x.top=r.bot + 1) && (if f=4 then decide (r.lo=r.hi) else decide (x.hi=r.hi))

noncomputable def rightL (M:St) (f:Int) (e:Edge) (l:Int):Bool:=
 M.leads f e l && (reachL M.cs [e.to]).all (fun id=>!wrongB M f (grec (look M.cs id)))

theorem rightL_no {M:St} {f:Int} {e:Edge} {l:Int} (h:M.leads f e l=false):rightL M f e l=false:=by unfold rightL;rw [h];rfl

theorem rightL_bad {M:St} {f:Int} {e:Edge} {l:Int} {d:Nat} {id:Int} (hi:(reachL M.cs [e.to])[d]?=some id) (hw:wrongB M f (grec (look M.cs id))=true):rightL M f e l=false:=by
 unfold rightL
 have:(reachL M.cs [e.to]).all (fun id=>!wrongB M f (grec (look M.cs id)))=false:=by
  rw [List.all_eq_false]
  exact ⟨id,List.mem_of_getElem? hi,by rw [hw];simp⟩
 rw [this,Bool.and_false]

theorem rightL_good {M:St} {f:Int} {e:Edge} {l:Int} (h:M.leads f e l=true) (hw:∀ (i:Nat) (id:Int),i < (reachL M.cs [e.to]).length → (reachL M.cs [e.to])[i]?=some id → wrongB M f (grec (look M.cs id))=false):rightL M f e l=true:=by
 unfold rightL
 rw [h,Bool.true_and,List.all_eq_true]
 intro id hid
 obtain ⟨i,hi⟩:=List.getElem?_of_mem hid
 rw [hw i id (List.getElem?_eq_some_iff.1 hi).1 hi]
 rfl

theorem reach_rec {M:St} (h:M.wf) {es:List Int} {d:Nat} {id:Int} (hi:(reachL M.cs es)[d]?=some id):∃ r,look M.cs id=some r ∧ GoodRec M r ∧ 2 ≤ id ∧ id ≤ (M.cs.length:Int) + 1:=by
 have h1:=(mem_reachL.1 (List.mem_of_getElem? hi)).some
 cases hl:look M.cs id with
 | none=>exact absurd hl h1
 | some r=>
  have:=look_some hl
  exact ⟨r,rfl,h.goodRec hl,this.1,by omega⟩

theorem isEdges_one {W:World} {b:Nat} {e:Edge} (he:e.ok) (c0:W.cell? ⟨b,0,none⟩=some (.int .u8 e.tag)) (c1:W.cell? ⟨b,1,none⟩=some (.int .u32 e.to)):IsEdges W (some ⟨b,0,none⟩) 1 [e]:=by
 refine ⟨rfl,fun i x hx=>?_⟩
 cases i with
 | zero=>simp at hx;subst hx;exact ⟨he,b,0,rfl,c0,c1⟩
 | succ i=>simp at hx

theorem reachL_few {M:St} (h:M.wf) (hf:M.cs.length ≤ 1048576) (es:List Int):(reachL M.cs es).length ≤ 1048576:=by
 have h1:=ids_few M.cs.length (reachL M.cs es) ((reachL_rising M.cs es).imp (fun h=>by omega)) (fun x hx=>by
  have h1:=(mem_reachL.1 hx).some
  cases hl:look M.cs x with
  | none=>exact absurd hl h1
  | some r=>have:=look_some hl;exact ⟨this.1,this.2.1⟩)
 omega

theorem StoreRep.few {F:Nat → Prop} {w:World} {sb:Nat} {M:St} (h:StoreRep F w sb M):M.cs.length ≤ 1048576:=by
 obtain ⟨⟨ab,ib,ts,Fa,Fi,_,h2,_⟩,_⟩:=h
 exact h2.few

theorem leads_iff {M:St} {f:Int} {e:Edge} {l:Int}:M.leads f e l=true ↔ (plainB f e l M.n=true ∧ (e.to < 2 ∨ ∃ r,look M.cs e.to=some r ∧ r.form=f ∧ l ≤ r.top ∧ e.tag ≤ r.top)):=by
 refine ⟨leads_cases,?_⟩
 rintro ⟨h1,h2⟩
 unfold St.leads
 rw [h1,Bool.true_and]
 rcases h2 with h2 | ⟨r,hr,h3,h4,h5⟩
 ·rw [decide_eq_true h2];rfl
 ·rw [hr]
  simp [h3,h4,h5]

theorem right_leads {M:St} {f:Int} {e:Edge} {l:Int} (h:rightL M f e l=true):M.leads f e l=true:=by
 unfold rightL at h
 rw [Bool.and_eq_true] at h
 exact h.1

theorem look_low {cs:List (Option Rec)} {id:Int} (h:id < 2):look cs id=none:=by unfold look;rw [if_pos h]

end Go.Proofs.YtiifimnpmbfihaaGreat
