/-
  swap.Permute.
-/
import Derived.Test.YtiifimnpmbfihaaGreatPSetF
import Derived.Test.YtiifimnpmbfihaaGreatPSwapG
namespace Go.Proofs.YtiifimnpmbfihaaGreat
set_option linter.unusedSimpArgs false
set_option linter.unusedVariables false
set_option maxHeartbeats 600000
open Go.RowKit

def permCode (M:St) (n:Nat) (qs:List Int) (rs:List (Int × Edge)):Int:=if M.n=(n:Int) then (if n=qs.length ∧ permB qs=true then mayL M rs else 1) else 1

def PermOut (F Fo:Nat → Prop) (w:World) (sb ob:Nat) (M:St) (ps qs:List Int) (rs:List (Int × Edge)) (c code:Int) (r:Ending) (w':World):Prop:=
 (code ≠ 0 ∧ r=.returned (.tuple #[.slice none 0 0,.int .u8 code]) ∧ Keeps w w') ∨
  (code=0 ∧ ∃ ss:List Nat,runL ps ss=qs ∧ (∀ s ∈ ss,s + 1 < ps.length) ∧ ss.length ≤ ps.length * ps.length ∧ AllOut F Fo w sb ob M ps ss rs c r w')

set_option maxRecDepth 100000 in
theorem permute_fit (sb ob:Nat) (s2 s3:Value) (w:World)
  (hfit:∀ W,Keeps w W → Calls Tryz.prog 131 #[.pointer (some ⟨sb,0,none⟩),.pointer (some ⟨ob,0,none⟩)] W fun e w'=>e=.returned (.int .u8 1) ∧ Keeps W w') :
  Calls Tryz.prog 46 #[.pointer (some ⟨sb,0,none⟩),.pointer (some ⟨ob,0,none⟩),s2,s3] w fun e w'=>e=.returned (.tuple #[.slice none 0 0,.int .u8 1]) ∧ Keeps w w':=by
 have HF:=Lib.hid hfit
 clear hfit
 go_enter Tryz.func46,Tryz.ntmps46
 go_wp2_with (first | (go_at_call 131;refine (HF.out _ (by (exact kp))).mono ?_;rintro e w1 ⟨rfl,hk1⟩) | fail)
 go_ret2
 exact ⟨rfl,by (exact kp)⟩

set_option maxRecDepth 100000 in
theorem permute_bad (sb ob n m:Nat) (ps:List Int) (a2:Option Addr) (cap2:Nat) (s3:Value) (w:World)
  (hfit:∀ W,Keeps w W → Calls Tryz.prog 131 #[.pointer (some ⟨sb,0,none⟩),.pointer (some ⟨ob,0,none⟩)] W fun e w'=>e=.returned (.int .u8 0) ∧ Keeps W w')
  (hperm:∀ W,Keeps w W → Calls Tryz.prog 47 #[.pointer (some ⟨ob,0,none⟩)] W fun e w'=>∃ a cap,e=.returned (.slice a n cap) ∧ RowV W.heap.size w' a ps ∧ Keeps W w')
  (hsteps:∀ W a cap,Keeps w W → IntsAt W a ps → Calls Tryz.prog 132 #[.slice a n cap,.slice a2 m cap2] W fun e w'=>e=.returned (.tuple #[.slice none 0 0,.bool false]) ∧ Keeps W w') :
  Calls Tryz.prog 46 #[.pointer (some ⟨sb,0,none⟩),.pointer (some ⟨ob,0,none⟩),.slice a2 m cap2,s3] w fun e w'=>e=.returned (.tuple #[.slice none 0 0,.int .u8 1]) ∧ Keeps w w':=by
 have HF:=Lib.hid hfit
 have HP:=Lib.hid hperm
 have HS:=Lib.hid hsteps
 clear hfit hperm hsteps
 go_enter Tryz.func46,Tryz.ntmps46
 go_wp2_with (first
  | (go_at_call 131;refine (HF.out _ (by (exact kp))).mono ?_;rintro e w1 ⟨rfl,hk1⟩)
  | (go_at_call 47;refine (HP.out _ (by (exact kp))).mono ?_;rintro e w2 ⟨a,cap,rfl,hr,hk2⟩)
  | (go_at_call 132;refine (HS.out _ a cap (by (exact kp)) hr.ints).mono ?_;rintro e w3 ⟨rfl,hk3⟩)
  | fail)
 go_ret2
 exact ⟨rfl,by (exact kp)⟩

set_option maxRecDepth 100000 in
theorem permute_walk (sb ob n m N:Nat) (ps:List Int) (Q:World → World → Option Addr → Nat → Nat → Prop) (a2 a3:Option Addr) (cap2 cap3:Nat) (w:World) (P:Ending → World → Prop)
  (hfit:∀ W,Keeps w W → Calls Tryz.prog 131 #[.pointer (some ⟨sb,0,none⟩),.pointer (some ⟨ob,0,none⟩)] W fun e w'=>e=.returned (.int .u8 0) ∧ Keeps W w')
  (hperm:∀ W,Keeps w W → Calls Tryz.prog 47 #[.pointer (some ⟨ob,0,none⟩)] W fun e w'=>∃ a cap,e=.returned (.slice a n cap) ∧ RowV W.heap.size w' a ps ∧ Keeps W w')
  (hsteps:∀ W a cap,Keeps w W → IntsAt W a ps → Calls Tryz.prog 132 #[.slice a n cap,.slice a2 m cap2] W fun e w'=>∃ a' k cap',e=.returned (.tuple #[.slice a' k cap',.bool true]) ∧ Q W w' a' k cap' ∧ Keeps W w')
  (hall:∀ W W' a' k cap',Keeps w W → Keeps W W' → Q W W' a' k cap' → Calls Tryz.prog 133 #[.pointer (some ⟨sb,0,none⟩),.pointer (some ⟨ob,0,none⟩),.slice a' k cap',.slice a3 N cap3] W' P)
  (hshape:∀ r w',P r w' → ∃ v1 v2,r=.returned (.tuple #[v1,v2])) :
  Calls Tryz.prog 46 #[.pointer (some ⟨sb,0,none⟩),.pointer (some ⟨ob,0,none⟩),.slice a2 m cap2,.slice a3 N cap3] w P:=by
 have HF:=Lib.hid hfit
 have HP:=Lib.hid hperm
 have HS:=Lib.hid hsteps
 have HA:=Lib.hid hall
 have HSH:=Lib.hid hshape
 clear hfit hperm hsteps hall hshape
 go_enter Tryz.func46,Tryz.ntmps46
 go_wp2_with (first
  | (go_at_call 131;refine (HF.out _ (by (exact kp))).mono ?_;rintro e w1 ⟨rfl,hk1⟩)
  | (go_at_call 47;refine (HP.out _ (by (exact kp))).mono ?_;rintro e w2 ⟨a,cap,rfl,hr,hk2⟩)
  | (go_at_call 132;refine (HS.out _ a cap (by (exact kp)) hr.ints).mono ?_;rintro e w3 ⟨a',k,cap',rfl,hq,hk3⟩)
  | fail)
 refine (HA.out w2 w3 a' k cap' (by (exact kp)) hk3 hq).mono ?_
 rintro r w4 hh
 obtain ⟨v1,v2,rfl⟩:=HSH.out _ _ hh
 have HH:=Lib.hid hh
 clear hh
 go_wp2_with fail
 exact HH.out

set_option maxHeartbeats 1000000 in
theorem permute_calls {F Fo:Nat → Prop} {w:World} {sb ob:Nat} {M:St} {ps qs:List Int} {rs:List (Int × Edge)} {c:Int} (h:StoreRep F w sb M) (ho:OrdRep Fo w ob ps) (hd:∀ k,F k → ¬ Fo k)
  (a2 a3:Option Addr) (cap2 cap3:Nat) (hQ:∀ W,Upd (fun j=>F j ∨ Fo j) w W → IntsAt W a2 qs) (hql:qs.length ≤ 1048576) (hR:∀ W,Upd (fun j=>F j ∨ Fo j) w W → IsRoots W a3 rs) (hrl:rs.length ≤ 16) (hc:∀ s:Nat,(s:Int) + 1 < M.n → costS (s:Int) 0 ≤ c) (hc0:0 ≤ c)
  (hroom:M.n=(ps.length:Int) → ∀ k,k ≤ ps.length * ps.length → M.len + ((k * rs.length:Nat):Int) * c < M.room) (hrm:M.room < 1048576) :
  Calls Tryz.prog 46 #[.pointer (some ⟨sb,0,none⟩),.pointer (some ⟨ob,0,none⟩),.slice a2 qs.length cap2,.slice a3 rs.length cap3] w (PermOut F Fo w sb ob M ps qs rs c (permCode M ps.length qs rs)):=by
 have hfit:=fun (W:World) (hW:Keeps w W)=>swapFit_calls (h.keeps hW) (ho.keeps hW)
 have hperm:=fun (W:World) (hW:Keeps w W)=>ordPerm_calls (ho.keeps hW)
 have hn0:=h.wf.n0
 have hn16:=h.wf.n16
 have hp:=ho.perm
 have hp16:=ho.le
 by_cases h1:M.n=(ps.length:Int)
 ·rw [if_pos h1] at hfit
  by_cases h2:ps.length=qs.length ∧ permB qs=true
  ·have e1:permCode M ps.length qs rs=mayL M rs:=by unfold permCode;rw [if_pos h1,if_pos h2]
   rw [e1]
   have hroom:=hroom h1
   refine permute_walk sb ob ps.length qs.length rs.length ps (fun W W' a' k cap'=>∃ ss:List Nat,ss.length=k ∧ W'.ownsRow W.heap.size 3 1 (.slice a' k cap') k (ss.map (fun s:Nat=>Value.int .i64 (s:Int))) ∧ runL ps ss=qs ∧ (∀ s ∈ ss,s + 1 < ps.length) ∧ ss.length ≤ ps.length * ps.length) a2 a3 cap2 cap3 w _ hfit hperm (fun W a cap hW hI=>?_) (fun W W' a' k cap' hW hW' hq=>?_) (fun r w' hh=>?_)
   ·have:=steps_calls a a2 cap cap2 ps qs W hI (hQ W (hW.upd _)) hp h2.2 h2.1
    refine this.mono fun e w' hh=>?_
    obtain ⟨ss,a',cap',he,g1,g2,g3,g4,g5⟩:=hh
    exact ⟨a',ss.length,cap',he,⟨ss,rfl,g1,g2,g3,g4⟩,g5⟩
   ·obtain ⟨ss,rfl,hown,g2,g3,g4⟩:=hq
    have hWW:=hW.trans hW'
    by_cases hm:mayL M rs=0
    ·have hk2:ss.length ≤ 256:=by
      have:ps.length * ps.length ≤ 16 * 16:=Nat.mul_le_mul hp16 hp16
      omega
     have hall:=swapAll_calls (ss:=ss) (c:=c) (h.keeps hWW) (ho.keeps hWW) hd a' a3 cap' cap3 (fun W2 hW2 i x hx=>?_) (fun W2 hW2=>hR W2 ((hWW.upd _).trans' hW2)) (by omega) hrl hm h1 g3 (fun s hs=>hc s (by have:=g3 s hs;omega)) hc0 (hroom _ g4) hrm
     ·exact hall.mono fun r w' hh=>.inr ⟨hm,ss,g2,g3,g4,hh.before hWW⟩
     ·exact owns_ints hown hW2 (fun k hk=>by
       have:=hW.size
       rcases hk with hk | hk
       ·have:=h.lt _ hk;omega
       ·have:=ho.lt _ hk;omega) i x hx
    ·exact (all_bad (h.keeps hWW) _ _ a3 cap3 (hR W' (hWW.upd _)) (by omega) hm).mono fun r w' ⟨he,hk⟩=>.inl ⟨hm,he,hWW.trans hk⟩
   ·rcases hh with ⟨_,rfl,_⟩ | ⟨_,ss,_,_,_,g,es,M',F',rfl,_⟩
    ·exact ⟨_,_,rfl⟩
    ·exact ⟨_,_,rfl⟩
  ·have e1:permCode M ps.length qs rs=1:=by unfold permCode;rw [if_pos h1,if_neg h2]
   rw [e1]
   refine (permute_bad sb ob ps.length qs.length ps a2 cap2 _ w hfit hperm (fun W a cap hW hI=>?_)).mono fun r w' ⟨he,hk⟩=>.inl ⟨by decide,he,hk⟩
   exact steps_bad a a2 cap cap2 ps qs W hI (hQ W (hW.upd _)) hp (by omega) hql h2
 ·have e1:permCode M ps.length qs rs=1:=if_neg h1
  rw [if_neg h1] at hfit
  rw [e1]
  exact (permute_fit sb ob _ _ w hfit).mono fun r w' ⟨he,hk⟩=>.inl ⟨by decide,he,hk⟩

end Go.Proofs.YtiifimnpmbfihaaGreat
