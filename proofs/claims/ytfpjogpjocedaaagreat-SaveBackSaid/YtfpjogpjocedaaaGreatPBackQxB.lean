/-
  ramageref17.Nodes; how many nodes a right edge's term has.
-/
import Derived.Test.YtfpjogpjocedaaaGreatPSpoiltP
import Derived.Test.YtfpjogpjocedaaaGreatPTermsSxB
namespace Go.Proofs.YtfpjogpjocedaaaGreat
set_option linter.unusedSimpArgs false
set_option linter.unusedVariables false
set_option maxHeartbeats 600000
open Go Go.RowKit

theorem stands_one6 {M:St} {f:Int} {ps:List Int} {has has':Nat → Bool} {x y:Edge} (hw:M.wf) (hfit:Fit0 M) (hf:1 ≤ f ∧ f ≤ 5) (hp:permB ps=true) (hn:M.n=(ps.length:Int)) (h6:ps.length ≤ 6) (hlen:M.len + 128 ≤ 1048576) (h:Stands M f ps has x) (h':Stands M f ps has' y) (he:hasT ps.length has=hasT ps.length has'):x=y:=by
 have hp6:2 ^ ps.length ≤ 2 ^ 6:=Nat.pow_le_pow_right (by decide) h6
 have e6:(2:Nat) ^ 6=64:=rfl
 have ht:=tabE_of_tabP hp hn (h.tab.trans (he.trans h'.tab.symm))
 exact right_one (k:=ps.length) hf hw (by omega) h.ok.2.1 h'.ok.2.1 hfit h.lead h'.lead h.right h'.right (Int.le_refl _) (by omega) ht

theorem saved_bytes {M:St} (h:M.wf) (hfa:FitA M) (hfew:M.cs.length ≤ 1048576) {f:Int} {ps:List Int} {has:Nat → Bool} {x:Edge} (hp:permB ps=true) (hn:M.n=(ps.length:Int)) (hx:Stands M f ps has x) {T:Txt} {M0:St} {ids:List Int} (hg:GoodF (saveB M ps f x) T M0 ids) :
  T.l.length=(numM M x.to []).length ∧ T.vars=ps.length ∧ ∀ (M':St),M'.wf → M'.n=(ps.length:Int) → ∀ M2 ids2,putL T.l M' []=(0,M2,ids2) → saveB M2 ps f (atR ids2 T.e)=saveB M ps f x:=by
 have hpr:=perm_range2 hp
 have hnm:=numM_few h hfa hfew x.to
 have hrd:=read_save h hfa (ps:=ps) hn hpr.2 hx.ok hx.lead hnm
 have hT:T=rawT M ps f x:=by
  have e:=hg.good.read
  rw [hrd] at e
  exact (Option.some.inj e).symm
 have hlen:(rawT M ps f x).l.length=(numM M x.to []).length:=List.length_map _
 refine ⟨by rw [hT];exact hlen,by rw [hT];show M.n.toNat=_;omega,?_⟩
 intro M' hM hn' M2 ids2 hput
 have hsaved:=put_saved h hfa (f:=f) (ps:=ps) hx.ok hx.lead hM (hn'.trans hn.symm)
 rw [← hT,hput] at hsaved
 rcases hsaved with ⟨k1,φ,k2,k3,k4⟩ | ⟨k1,k2⟩
 ·have k4':atR ids2 T.e=mapE φ x:=k4
  rw [k4']
  exact k2.saveE k3
 ·exact absurd (show (0:Int)=6 from k1) (by decide)

theorem saved_same {M M2:St} {f:Int} {ps:List Int} {has:Nat → Bool} {x y:Edge} (h:M.wf) (hf:1 ≤ f ∧ f ≤ 5) (hp:permB ps=true) (hn:M.n=(ps.length:Int)) (h6:ps.length ≤ 6) (hx:Stands M f ps has x) (hE:Ext M M2) (hw:M2.wf) (hfit:Fit0 M2) (hlen:M2.len + 128 ≤ 1048576) (hy:Stands M2 f ps has y):y=x:=
 stands_one6 hw hfit hf hp (hE.n.trans hn) h6 hlen hy (hx.ext h hE) rfl

end Go.Proofs.YtfpjogpjocedaaaGreat
