/-
  The document's permutations: ramageref02.Right, Same, Step; ramageref26.Moved.
-/
import Derived.Test.YtfpjogpjocedaaaGreatPPermR
namespace Go.Proofs.YtfpjogpjocedaaaGreat
set_option linter.unusedSimpArgs false
set_option linter.unusedVariables false
set_option maxHeartbeats 600000
open Go.RowKit

set_option maxRecDepth 100000 in
theorem refSame_calls (a b:Option Addr) (cap cap2:Nat) (ps qs:List Int) (w:World) (h1:IntsAt w a ps) (h2:IntsAt w b qs) (hl1:ps.length ≤ 1048576) (hl2:qs.length ≤ 1048576) :
  Calls Tryz.prog 13 #[.slice a ps.length cap,.slice b qs.length cap2] w fun e w'=>e=.returned (.bool (decide (ps=qs))) ∧ Keeps w w':=by
 by_cases hne:ps.length=qs.length
 ·obtain ⟨N,hN⟩:∃ N,N=ps.length:=⟨_,rfl⟩
  have hM:N=qs.length:=hN.trans hne
  rw [← hM,← hN]
  rw [← hN] at hl1
  have H1:=Lib.hid h1
  have H2:=Lib.hid h2
  have HN:=Lib.hid hN
  have HM:=Lib.hid hM
  clear h1 h2 hN hM hne hl2
  go_enter Tryz.func13,Tryz.ntmps13
  go_wp2
  go_loopg [5] N (fun gk s5 wr=>∃ d:Nat,s5=.int .i64 (d:Int) ∧ d + gk=N ∧ (∀ i,i < d → ps[i]?=qs[i]?) ∧ Keeps w wr)
  case atStart=>exact ⟨0,rfl,by omega,fun i hi=>by omega,by (exact kp)⟩
  case round=>
   obtain ⟨d,rfl,hd,hn,hk⟩:=hrel
   have HNN:=Lib.hid hn
   clear hn
   by_cases hlt:d < N
   ·obtain ⟨x,hx⟩:∃ b,ps[d]?=some b:=⟨_,List.getElem?_eq_getElem (by rw [← HN.out];exact hlt)⟩
    obtain ⟨y,hy⟩:∃ b,qs[d]?=some b:=⟨_,List.getElem?_eq_getElem (by rw [← HM.out];exact hlt)⟩
    obtain ⟨b1,o1,rfl,c0⟩:=H1.out d x hx
    obtain ⟨b2,o2,rfl,c1⟩:=H2.out d y hy
    replace c0:=hk.cell c0
    replace c1:=hk.cell c1
    have HX:=Lib.hid hx
    have HY:=Lib.hid hy
    have i0:(0:Int) ≤ (d:Int):=by omega
    have i1:(d:Int) < (N:Int):=by omega
    clear hx hy
    by_cases hab:x=y
    ·subst hab
     go_wp2_with fail
     go_quiet (fail)
     go_wp2
     go_roundg (gk - 1)
     case rel=>
      refine ⟨d + 1,by simp,by omega,fun i hi=>?_,by (exact kp)⟩
      by_cases e:i=d
      ·subst e;rw [HX.out,HY.out]
      ·exact HNN.out i (by omega)
     case measure=>omega
    ·have gab:(x != y)=true:=by simp [hab]
     have hf:Hid (¬ ps=qs):=Lib.hid (fun e=>by have:=HX.out;rw [e,HY.out] at this;exact hab (Option.some.inj this).symm)
     go_wp2_with fail
     go_quiet (fail)
     go_wp2
     go_ret
     exact ⟨by rw [decide_eq_false hf.out];rfl,by (exact kp)⟩
   ·have hg0:d=N:=by omega
    have hh:ps=qs:=by
     apply List.ext_getElem?
     intro i
     by_cases hi:i < d
     ·exact HNN.out i hi
     ·rw [List.getElem?_eq_none (by rw [← HN.out];omega),List.getElem?_eq_none (by rw [← HM.out];omega)]
    have HH:=Lib.hid hh
    clear hg0 hh
    go_wp2_with fail
    go_ret
    exact ⟨by rw [decide_eq_true HH.out];rfl,hk⟩
 ·have hf:decide (ps=qs)=false:=decide_eq_false (fun e=>hne (by rw [e]))
  obtain ⟨N,hN⟩:∃ N,N=ps.length:=⟨_,rfl⟩
  obtain ⟨K,hK⟩:∃ K,K=qs.length:=⟨_,rfl⟩
  rw [hf]
  rw [← hN,← hK] at hne ⊢
  have gne:((N:Int) != (K:Int))=true:=by simp;omega
  clear h1 h2 hl1 hl2 hN hK hf hne
  go_enter Tryz.func13,Tryz.ntmps13
  go_wp2
  go_ret
  exact ⟨rfl,by (exact kp)⟩

end Go.Proofs.YtfpjogpjocedaaaGreat
