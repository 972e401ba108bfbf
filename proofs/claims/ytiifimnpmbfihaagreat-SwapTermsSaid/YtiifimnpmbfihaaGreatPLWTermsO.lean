/-
  SwapTerms: inputs that are passed over.
-/
import Derived.Test.YtiifimnpmbfihaaGreatPSwapL
import Derived.Test.YtiifimnpmbfihaaGreatPTermsS
import Derived.Test.YtiifimnpmbfihaaGreatRows
namespace Go.Proofs.YtiifimnpmbfihaaGreat
set_option linter.unusedSimpArgs false
set_option linter.unusedVariables false
set_option maxHeartbeats 600000
open Go.ChangeShapes Go.WideShapes Go.ChangeAt Go.RowKit

set_option maxRecDepth 100000 in
set_option maxHeartbeats 2000000 in
theorem swapTerms_out (a1:Option Addr) (cap1:Nat) (ps:List Int) (a2:Option Addr) (cap2:Nat) (qs:List Int) (f g a b:Int) (w:World) (hps:IntsAt w a1 ps) (hqs:IntsAt w a2 qs) (h:5 < ps.length ∨ qs.length ≠ ps.length ∨ permB ps=false ∨ permB qs=false ∨ f < 1 ∨ 5 < f ∨ g < 1 ∨ 5 < g) :
  Calls Tryz.prog 10 #[.slice a1 ps.length cap1,.slice a2 qs.length cap2,.int .u8 f,.int .u8 g,.int .u64 a,.int .u64 b] w fun e w'=>e=.returned (.bool true) ∧ Keeps w w':=by
 have hrp:=fun (h16:ps.length ≤ 5) (W:World) (hW:Keeps w W)=>refRight_calls a1 cap1 ps W (hps.keeps hW) (by omega)
 have hrq:=fun (h16:qs.length ≤ 5) (W:World) (hW:Keeps w W)=>refRight_calls a2 cap2 qs W (hqs.keeps hW) (by omega)
 obtain ⟨K,hK⟩:∃ K,K=ps.length:=⟨_,rfl⟩
 obtain ⟨L,hL⟩:∃ L,L=qs.length:=⟨_,rfl⟩
 rw [← hK] at hrp h ⊢
 rw [← hL] at hrq h ⊢
 by_cases h2:5 < K
 ·clear hrp hrq hK hL hps hqs h
  go_enter Tryz.func10,Tryz.ntmps10
  go_wp2_with (first | (go_at_call 45;refine (l26_alive _).mono ?_;rintro e w1 ⟨rfl,hk1⟩) | fail)
  go_ret
  exact ⟨rfl,by (exact kp)⟩
 by_cases h3:L=K
 ·replace hrp:=hrp (by omega)
  replace hrq:=hrq (by omega)
  rw [h3] at hrq h ⊢
  clear hL h3 L
  cases hp:permB ps with
  | false=>
   rw [hp] at hrp
   have HRP:=Lib.hid hrp
   clear hrp hrq hK hps hqs h hp
   go_enter Tryz.func10,Tryz.ntmps10
   go_wp2_with (first | (go_at_call 45;refine (l26_alive _).mono ?_;rintro e w1 ⟨rfl,hk1⟩) | (go_at_call 20;refine (HRP.out _ (by (exact kp))).mono ?_;rintro e w2 ⟨rfl,rfl⟩) | fail)
   go_ret
   exact ⟨rfl,by (exact kp)⟩
  | true=>
   rw [hp] at hrp h
   have HRP:=Lib.hid hrp
   cases hq:permB qs with
   | false=>
    rw [hq] at hrq
    have HRQ:=Lib.hid hrq
    clear hrp hrq hK hps hqs h hp hq
    go_enter Tryz.func10,Tryz.ntmps10
    go_wp2_with fail
    refine (l26_alive _).mono ?_
    rintro e w1 ⟨rfl,hk1⟩
    go_wp2_with fail
    refine (HRP.out _ hk1).mono ?_
    rintro e w11 ⟨rfl,rfl⟩
    go_wp2_with fail
    refine (HRQ.out _ hk1).mono ?_
    rintro e w12 ⟨rfl,rfl⟩
    go_wp2_with fail
    go_ret
    exact ⟨rfl,by (exact kp)⟩
   | true=>
    rw [hq] at hrq h
    have HRQ:=Lib.hid hrq
    have h':f < 1 ∨ (¬ f < 1 ∧ 5 < f) ∨ (¬ f < 1 ∧ ¬ 5 < f ∧ g < 1) ∨ (¬ f < 1 ∧ ¬ 5 < f ∧ ¬ g < 1 ∧ 5 < g):=by
     rcases h with h | h | h | h | h
     ·omega
     ·exact absurd rfl h
     ·cases h
     ·cases h
     ·omega
    clear hrp hrq hK hps hqs h hp hq
    rcases h' with h1 | ⟨h1,h3⟩ | ⟨h1,h3,h4⟩ | ⟨h1,h3,h4,h5⟩
    all_goals (
     go_enter Tryz.func10,Tryz.ntmps10
     go_wp2_with fail
     refine (l26_alive _).mono ?_
     rintro e w1 ⟨rfl,hk1⟩
     go_wp2_with fail
     refine (HRP.out _ hk1).mono ?_
     rintro e w11 ⟨rfl,rfl⟩
     go_wp2_with fail
     refine (HRQ.out _ hk1).mono ?_
     rintro e w12 ⟨rfl,rfl⟩
     go_wp2_with fail
     go_ret
     exact ⟨rfl,by (exact kp)⟩)
 ·clear hrp hrq hK hL hps hqs h
  have h3':¬ ((L:Int)=(K:Int)):=by omega
  go_enter Tryz.func10,Tryz.ntmps10
  go_wp2_with (first | (go_at_call 45;refine (l26_alive _).mono ?_;rintro e w1 ⟨rfl,hk1⟩) | fail)
  go_ret
  exact ⟨rfl,by (exact kp)⟩

end Go.Proofs.YtiifimnpmbfihaaGreat
