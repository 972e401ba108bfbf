/-
  What the statements' walks share.
-/
import Derived.Test.YtiifimnpmbfihaaGreatPOpens
import Derived.Test.YtiifimnpmbfihaaGreatPVBase
namespace Go.Proofs.YtiifimnpmbfihaaGreat
set_option linter.unusedSimpArgs false
set_option linter.unusedVariables false
set_option maxHeartbeats 600000
open Go.RowKit

theorem findErr_range (M:St) (r:Rec):0 ≤ M.findErr r ∧ M.findErr r ≤ 255:=by
 unfold St.findErr
 split
 ·decide
 ·split
  ·decide
  ·split <;> decide

theorem actErr_range (M:St) (l:Int) (lo hi:Edge):0 ≤ actErr M (tAct M l lo hi) ∧ actErr M (tAct M l lo hi) ≤ 255:=by
 unfold tAct
 split
 ·simp [actErr]
 ·split
  ·simp [actErr]
  ·split
   ·simp [actErr]
   ·split
    ·simp [actErr]
    ·exact findErr_range M _

def IsU8s (w:World) (a:Option Addr) (len:Nat) (bs:List Int):Prop:=
 bs.length=len ∧ ∀ i x,bs[i]?=some x → 0 ≤ x ∧ x ≤ 255 ∧ ∃ b off,a=some ⟨b,off,none⟩ ∧ w.cell? ⟨b,off + i,none⟩=some (.int .u8 x)

theorem open_u8s {H:Type} {enc:TypeId × Value → H} {W:World} {base:Nat} {spare:Nat → Bool} {held:Bool} {a:Option Addr} {len cap:Nat} {d:DataW H} {p:List MemPlace}
  (h:DataW.Trod enc Tryz.prog W base spare held 37 (.slice a len cap) d p):∃ bs:List Int,IsU8s W a len bs:=by
 obtain ⟨rs,h1,h2⟩:=open_structs (k:=1) (fun (r:Int) cs=>(0 ≤ r ∧ r ≤ 255) ∧ cs=[.int .u8 r]) Tryz.underlying37 (by kernel_rfl) (by decide) (fun n cs x hx=>by
  obtain ⟨r,hr,_,wr⟩:=DataW.trod_int Tryz.underlying5 hx
  exact ⟨by rw [hr];rfl,r,wf_u8 wr,hr⟩) h
 refine ⟨rs,h1,fun i r hr=>?_⟩
 obtain ⟨b,off,cs,ha,⟨hok,rfl⟩,hc⟩:=h2 i r hr
 have c0:=hc 0 (by decide)
 rw [Nat.add_zero,Nat.mul_one] at c0
 exact ⟨hok.1,hok.2,b,off,ha,c0⟩

end Go.Proofs.YtiifimnpmbfihaaGreat
