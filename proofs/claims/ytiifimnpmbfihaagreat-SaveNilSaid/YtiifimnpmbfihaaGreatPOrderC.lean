/-
  order.Order: Vars, Perm, Var, Level, Swap.
-/
import Derived.Test.YtiifimnpmbfihaaGreatPOrderB
import Derived.BigRegion
namespace Go.Proofs.YtiifimnpmbfihaaGreat
set_option linter.unusedSimpArgs false
set_option linter.unusedVariables false
set_option maxHeartbeats 600000
open Go.RowKit

theorem OrdRep.cells {F:Nat → Prop} {w:World} {ob:Nat} {ps:List Int} (h:OrdRep F w ob ps):∃ va vc lg lc,w.cell? ⟨ob,0,none⟩=some (.slice va ps.length vc) ∧ w.cell? ⟨ob,1,none⟩=some (.slice (some ⟨lg,0,none⟩) ps.length lc) ∧ IntsAt w va ps:=by
 obtain ⟨⟨va,vc,lg,lc,qs,h1,h2,h3,h4,h5⟩,_⟩:=h
 refine ⟨va,vc,lg,lc,by rw [cell_of_row w ob 0 _ _ _ h1];rfl,by rw [cell_of_row w ob 1 _ _ _ h1];rfl,fun i x hx=>?_⟩
 obtain ⟨vg,q1,q2,_⟩:=h3 (fun e=>by rw [e] at hx;simp at hx)
 rw [q1]
 exact q2.ints i x hx

theorem OrdRep.le {F:Nat → Prop} {w:World} {ob:Nat} {ps:List Int} (h:OrdRep F w ob ps):ps.length ≤ 16:=(permB_iff.1 h.perm).1

theorem ordVars_calls {F:Nat → Prop} {w:World} {ob:Nat} {ps:List Int} (h:OrdRep F w ob ps) :
  Calls Tryz.prog 116 #[.pointer (some ⟨ob,0,none⟩)] w fun e w'=>e=.returned (.int .i64 (ps.length:Int)) ∧ w=w':=by
 obtain ⟨va,vc,lg,lc,c0,c1,_⟩:=h.cells
 have hle:=h.le
 obtain ⟨n,hn⟩:∃ n,n=ps.length:=⟨_,rfl⟩
 rw [← hn] at c0 c1 hle ⊢
 clear h c1 hn
 go_enter Tryz.func116,Tryz.ntmps116
 go_wp2
 go_ret
 exact ⟨rfl,rfl⟩

theorem ordPerm_calls {F:Nat → Prop} {w:World} {ob:Nat} {ps:List Int} (h:OrdRep F w ob ps) :
  Calls Tryz.prog 47 #[.pointer (some ⟨ob,0,none⟩)] w fun e w'=>∃ a cap,e=.returned (.slice a ps.length cap) ∧ RowV w.heap.size w' a ps ∧ Keeps w w':=by
 obtain ⟨va,vc,lg,lc,c0,c1,hi⟩:=h.cells
 have hle:=h.le
 have hC:=fun W (hW:Keeps w W)=>clone_calls va vc ps W (hi.keeps hW) (by omega)
 obtain ⟨n,hn⟩:∃ n,n=ps.length:=⟨_,rfl⟩
 rw [← hn] at c0 c1 hC ⊢
 have HC:=Lib.hid hC
 clear h c1 hi hC hle hn
 go_enter Tryz.func47,Tryz.ntmps47
 go_wp2_with (first | (go_at_call 82;refine (HC.out _ (by (exact kp))).mono ?_;rintro e w1 ⟨a,cap,rfl,hr,hk⟩) | fail)
 go_ret
 exact ⟨a,cap,rfl,hr,hk⟩

end Go.Proofs.YtiifimnpmbfihaaGreat
