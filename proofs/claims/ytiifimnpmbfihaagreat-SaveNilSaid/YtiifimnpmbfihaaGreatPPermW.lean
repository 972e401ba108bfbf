/-
  perm.Right, Inverse; the document's Right, Same, Step over rows of ints.
-/
import Derived.Test.YtiifimnpmbfihaaGreatPPermB
import Derived.Test.YtiifimnpmbfihaaGreatPSFindA
namespace Go.Proofs.YtiifimnpmbfihaaGreat
set_option linter.unusedSimpArgs false
set_option linter.unusedVariables false
set_option maxHeartbeats 600000
open Go.RowKit

theorem wrap_pow {x:Int} (h:x < 62):wrap64 (2 ^ x.toNat)=2 ^ x.toNat:=by
 have h2:2 ^ x.toNat ≤ 2 ^ 61:=Nat.pow_le_pow_right (by decide) (by omega)
 have h1:(2:Int) ^ x.toNat=((2 ^ x.toNat:Nat):Int):=by push_cast;rfl
 have h0:(0:Int) < 2 ^ x.toNat:=Int.pow_pos (by decide)
 unfold wrap64
 omega

def permB (ps:List Int):Bool:=decide (ps.length ≤ 16) && ps.all (fun x=>decide (0 ≤ x ∧ x < (ps.length:Int))) && decide ps.Nodup

theorem permB_iff {ps:List Int}:permB ps=true ↔ (ps.length ≤ 16 ∧ (∀ x ∈ ps,0 ≤ x ∧ x < (ps.length:Int)) ∧ ps.Nodup):=by
 unfold permB
 simp [List.all_eq_true,and_assoc]

theorem take_snoc {α:Type} {l:List α} {i:Nat} {x:α} (h:l[i]?=some x):l.take (i + 1)=l.take i ++ [x]:=by
 obtain ⟨hi,rfl⟩:=List.getElem?_eq_some_iff.1 h
 rw [List.take_succ_eq_append_getElem hi]

set_option maxRecDepth 100000 in
theorem permRight_calls (a:Option Addr) (cap:Nat) (ps:List Int) (w:World) (h:IntsAt w a ps) (hl:ps.length ≤ 1048576) :
  Calls Tryz.prog 168 #[.slice a ps.length cap] w fun e w'=>e=.returned (.bool (permB ps)) ∧ w=w':=by
 obtain ⟨N,hN⟩:∃ N,N=ps.length:=⟨_,rfl⟩
 rw [← hN] at hl ⊢
 have H:=Lib.hid h
 have HN:=Lib.hid hN
 clear h hN
 by_cases h16:16 < N
 ·have hf:permB ps=false:=by
   cases hb:permB ps with
   | false=>rfl
   | true=>have:=(permB_iff.1 hb).1;have:=HN.out;omega
  rw [hf]
  clear hf
  go_enter Tryz.func168,Tryz.ntmps168
  go_wp2
  go_ret
  exact ⟨rfl,rfl⟩
 ·go_enter Tryz.func168,Tryz.ntmps168
  go_wp2
  go_loopg [3,5,11] N (fun gk s3 s5 s11 wr=>∃ (m d:Nat),s3=.int .i64 (m:Int) ∧ s11=.int .i64 (d:Int) ∧ d + gk=N ∧ MaskOf m (ps.take d) ∧ (∀ x ∈ ps.take d,0 ≤ x ∧ x < (N:Int)) ∧ (ps.take d).Nodup ∧ w=wr)
  case atStart=>exact ⟨0,0,rfl,rfl,by omega,by simpa using MaskOf.nil,by simp,by simp,rfl⟩
  case round=>
   obtain ⟨m,d,rfl,rfl,hd,hm,hr,hnd,rfl⟩:=hrel
   by_cases hlt:d < N
   ·obtain ⟨x,hx⟩:∃ b,ps[d]?=some b:=⟨_,List.getElem?_eq_getElem (by rw [← HN.out];exact hlt)⟩
    obtain ⟨b,off,rfl,hc⟩:=H.out d x hx
    have hmem:x ∈ ps:=List.mem_of_getElem? hx
    have HX:=Lib.hid hx
    clear hx
    by_cases hx0:x < 0
    ·have hf:permB ps=false:=by
      cases hb:permB ps with
      | false=>rfl
      | true=>have:=((permB_iff.1 hb).2.1 x hmem).1;omega
     have HFF:=Lib.hid hf
     clear hf hmem hm hr hnd
     go_wp2_with fail
     go_ret
     exact ⟨by rw [HFF.out];rfl,rfl⟩
    ·by_cases hx1:(N:Int) ≤ x
     ·have hf:permB ps=false:=by
       cases hb:permB ps with
       | false=>rfl
       | true=>have:=((permB_iff.1 hb).2.1 x hmem).2;have:=HN.out;omega
      have HFF:=Lib.hid hf
      clear hf hmem hm hr hnd
      go_wp2_with fail
      go_ret
      exact ⟨by rw [HFF.out];rfl,rfl⟩
     ·have hbit:=hm.bit (x:=x) (by omega)
      by_cases hin:x ∈ ps.take d
      ·have hf:permB ps=false:=by
        cases hb:permB ps with
        | false=>rfl
        | true=>
         have:=(permB_iff.1 hb).2.2
         rw [← List.take_append_drop d ps,List.nodup_append] at this
         refine absurd rfl (this.2.2 x hin x ?_)
         rw [List.drop_eq_getElem_cons (by rw [← HN.out];exact hlt)]
         have:=HX.out
         rw [List.getElem?_eq_getElem (by rw [← HN.out];exact hlt)] at this
         rw [Option.some.inj this]
         simp
       have HFF:=Lib.hid hf
       rw [decide_eq_true hin] at hbit
       clear hf hmem hm hr hnd hin
       have hx2:x ≤ 63:=by omega
       go_wp2_with fail
       go_ret
       exact ⟨by rw [HFF.out];rfl,rfl⟩
      ·rw [decide_eq_false hin] at hbit
       have hm2:=hm.add (x:=x) (by omega) (by omega)
       have hor:=or_i64 m (2 ^ x.toNat) (by have:=hm.1;omega) (Nat.lt_of_lt_of_le (Nat.pow_lt_pow_right (n:=16) (by decide) (by omega)) (by decide))
       have htk:=take_snoc HX.out
       rw [← htk] at hm2
       have hr2:∀ y ∈ ps.take (d + 1),0 ≤ y ∧ y < (N:Int):=fun y hy=>by
        rw [htk] at hy
        rcases List.mem_append.1 hy with hy | hy
        ·exact hr y hy
        ·rw [List.mem_singleton] at hy;subst hy;omega
       have hnd2:(ps.take (d + 1)).Nodup:=by
        rw [htk,List.nodup_append]
        exact ⟨hnd,by simp,fun y hy z hz e=>by rw [List.mem_singleton] at hz;subst e;subst hz;exact hin hy⟩
       have HM2:=Lib.hid hm2
       have HR2:=Lib.hid hr2
       have HND2:=Lib.hid hnd2
       push_cast at hor
       have hwp:=wrap_pow (x:=x) (by omega)
       clear hm hr hnd hm2 hr2 hnd2 hmem hin htk
       have hx2:x ≤ 63:=by omega
       go_wp2_with fail
       go_roundg (gk - 1)
       case rel=>exact ⟨m ||| 2 ^ x.toNat,d + 1,rfl,by simp,by omega,HM2.out,HR2.out,HND2.out,rfl⟩
       case measure=>omega
   ·have hd2:d=N:=by omega
    have ht:permB ps=true:=by
     have e1:ps.take d=ps:=List.take_of_length_le (by rw [← HN.out];omega)
     rw [e1] at hr hnd
     exact permB_iff.2 ⟨by have:=HN.out;omega,fun x hx=>by have:=hr x hx;have:=HN.out;omega,hnd⟩
    have HFF:=Lib.hid ht
    clear hm hr hnd ht
    go_wp2_with fail
    go_ret
    exact ⟨by rw [HFF.out];rfl,rfl⟩

end Go.Proofs.YtiifimnpmbfihaaGreat
