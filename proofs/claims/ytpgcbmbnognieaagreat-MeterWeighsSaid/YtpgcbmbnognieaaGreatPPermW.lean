/-
  Rows of ints; bits of a mask of 64 bits.
-/
import Derived.Test.YtpgcbmbnognieaaGreatPRefA
namespace Go.Proofs.YtpgcbmbnognieaaGreat
set_option linter.unusedSimpArgs false
set_option linter.unusedVariables false
set_option maxHeartbeats 600000
open Go.RowKit

def IntsAt (w:World) (a:Option Addr) (ps:List Int):Prop:=∀ i x,ps[i]?=some x → ∃ b off,a=some ⟨b,off,none⟩ ∧ w.cell? ⟨b,off + i,none⟩=some (.int .i64 x)

theorem IntsAt.keeps {w w':World} {a:Option Addr} {ps:List Int} (h:IntsAt w a ps) (hk:Keeps w w'):IntsAt w' a ps:=fun i x hx=>by
 obtain ⟨b,off,ha,hc⟩:=h i x hx
 exact ⟨b,off,ha,hk.cell hc⟩

theorem wrap_nat64 (n:Nat) (h:n < 2 ^ 63):IntKind.i64.wrap (n:Int)=(n:Int):=by
 have e:(n:Int) % 2 ^ 64=n:=Int.emod_eq_of_lt (by omega) (by omega)
 simp only [IntKind.wrap,IntKind.bits,IntKind.signed,e]
 rw [if_neg]
 simp
 omega

theorem and_one_i64 (E:Int) (h0:0 ≤ E) (h1:E ≤ 9223372036854775807):bits BinOp.and IntKind.i64 E 1=E % 2:=by
 obtain ⟨a,rfl⟩:∃ a:Nat,E=(a:Int):=⟨E.toNat,by omega⟩
 have hx2:a &&& 1=a % 2:=Nat.and_one_is_mod a
 have h1:(BitVec.ofInt 64 (a:Int)).toNat=a:=by
  rw [BitVec.ofInt_natCast,BitVec.toNat_ofNat];exact Nat.mod_eq_of_lt (by omega)
 have h2:(BitVec.ofInt 64 ((1:Nat):Int)).toNat=1:=by
  rw [BitVec.ofInt_natCast,BitVec.toNat_ofNat]
 show IntKind.i64.wrap ((BitVec.ofInt 64 (a:Int) &&& BitVec.ofInt 64 ((1:Nat):Int)).toNat:Int)=_
 rw [BitVec.toNat_and,h1,h2,hx2,wrap_nat64 _ (by omega)]
 omega

theorem or_i64 (a b:Nat) (ha:a < 2 ^ 62) (hb:b < 2 ^ 62):bits BinOp.or IntKind.i64 (a:Int) (b:Int)=((a ||| b:Nat):Int):=by
 have h1:∀ c:Nat,c < 2 ^ 62 → (BitVec.ofInt 64 (c:Int)).toNat=c:=fun c hc=>by
  rw [BitVec.ofInt_natCast,BitVec.toNat_ofNat];exact Nat.mod_eq_of_lt (by omega)
 have hx:a ||| b < 2 ^ 62:=Nat.or_lt_two_pow ha hb
 show IntKind.i64.wrap ((BitVec.ofInt 64 (a:Int) ||| BitVec.ofInt 64 (b:Int)).toNat:Int)=_
 rw [BitVec.toNat_or,h1 a ha,h1 b hb,wrap_nat64 _ (by omega)]

def MaskOf (m:Nat) (l:List Int):Prop:=m < 65536 ∧ ∀ j:Nat,m.testBit j=true ↔ (j:Int) ∈ l

theorem MaskOf.nil:MaskOf 0 []:=⟨by decide,fun j=>by simp⟩

theorem MaskOf.add {m:Nat} {l:List Int} {x:Int} (h:MaskOf m l) (h0:0 ≤ x) (h1:x < 16):MaskOf (m ||| 2 ^ x.toNat) (l ++ [x]):=by
 have hp:2 ^ x.toNat < 2 ^ 16:=Nat.pow_lt_pow_right (by decide) (by omega)
 refine ⟨Nat.or_lt_two_pow (n:=16) h.1 hp,fun j=>?_⟩
 rw [Nat.testBit_or,Bool.or_eq_true,h.2 j,List.mem_append,List.mem_singleton,Nat.testBit_two_pow]
 simp only [decide_eq_true_eq]
 constructor
 ·rintro (a | a)
  ·exact .inl a
  ·exact .inr (by omega)
 ·rintro (a | a)
  ·exact .inl a
  ·exact .inr (by omega)

theorem MaskOf.bit {m:Nat} {l:List Int} {x:Int} (h:MaskOf m l) (h0:0 ≤ x):(bits BinOp.and IntKind.i64 ((m:Int) / 2 ^ x.toNat) 1 == 1)=decide (x ∈ l):=by
 have hm:=h.1
 have hp:(0:Int) < 2 ^ x.toNat:=Int.pow_pos (by decide)
 have a0:0 ≤ (m:Int) / 2 ^ x.toNat:=Int.ediv_nonneg (by omega) (by omega)
 have a1:(m:Int) / 2 ^ x.toNat ≤ m:=Int.ediv_le_self _ (by omega)
 rw [and_one_i64 _ a0 (by omega)]
 have hb:=h.2 x.toNat
 rw [show ((x.toNat:Nat):Int)=x by omega] at hb
 have e:(m:Int) / 2 ^ x.toNat=((m / 2 ^ x.toNat:Nat):Int):=by push_cast;rfl
 rw [e]
 have ht:m.testBit x.toNat=decide (m / 2 ^ x.toNat % 2=1):=Nat.testBit_eq_decide_div_mod_eq
 by_cases hin:x ∈ l
 ·have:=hb.2 hin
  rw [ht,decide_eq_true_eq] at this
  rw [decide_eq_true hin,beq_iff_eq]
  omega
 ·have:¬ m / 2 ^ x.toNat % 2=1:=fun hh=>hin (hb.1 (by rw [ht];exact decide_eq_true hh))
  rw [decide_eq_false hin,beq_eq_false_iff_ne]
  omega

theorem wrap_pow {x:Int} (h:x < 62):wrap64 (2 ^ x.toNat)=2 ^ x.toNat:=by
 have h2:2 ^ x.toNat ≤ 2 ^ 61:=Nat.pow_le_pow_right (by decide) (by omega)
 have h1:(2:Int) ^ x.toNat=((2 ^ x.toNat:Nat):Int):=by push_cast;rfl
 have h0:(0:Int) < 2 ^ x.toNat:=Int.pow_pos (by decide)
 unfold wrap64
 omega

def permB (ps:List Int):Bool:=decide (ps.length ≤ 16) && ps.all (fun x=>decide (0 ≤ x ∧ x < (ps.length:Int))) && decide ps.Nodup

theorem permB_iff {ps:List Int}:permB ps=true ↔ (ps.length ≤ 16 ∧ (∀ x ∈ ps,0 ≤ x ∧ x < (ps.length:Int)) ∧ ps.Nodup):=by
 unfold permB
 simp [List.all_eq_true,and_assoc]

theorem take_snoc {α:Type} {l:List α} {i:Nat} {x:α} (h:l[i]?=some x):l.take (i + 1)=l.take i ++ [x]:=by
 obtain ⟨hi,rfl⟩:=List.getElem?_eq_some_iff.1 h
 rw [List.take_succ_eq_append_getElem hi]

set_option maxRecDepth 100000 in
theorem permRight_calls (a:Option Addr) (cap:Nat) (ps:List Int) (w:World) (h:IntsAt w a ps) (hl:ps.length ≤ 1048576) :
  Calls Tryz.prog 176 #[.slice a ps.length cap] w fun e w'=>e=.returned (.bool (permB ps)) ∧ w=w':=by
 obtain ⟨N,hN⟩:∃ N,N=ps.length:=⟨_,rfl⟩
 rw [← hN] at hl ⊢
 have H:=Lib.hid h
 have HN:=Lib.hid hN
 clear h hN
 by_cases h16:16 < N
 ·have hf:permB ps=false:=by
   cases hb:permB ps with
   | false=>rfl
   | true=>have:=(permB_iff.1 hb).1;have:=HN.out;omega
  rw [hf]
  clear hf
  go_enter Tryz.func176,Tryz.ntmps176
  go_wp2
  go_ret
  exact ⟨rfl,rfl⟩
 ·go_enter Tryz.func176,Tryz.ntmps176
  go_wp2
  go_loopg [3,5,11] N (fun gk s3 s5 s11 wr=>∃ (m d:Nat),s3=.int .i64 (m:Int) ∧ s11=.int .i64 (d:Int) ∧ d + gk=N ∧ MaskOf m (ps.take d) ∧ (∀ x ∈ ps.take d,0 ≤ x ∧ x < (N:Int)) ∧ (ps.take d).Nodup ∧ w=wr)
  case atStart=>exact ⟨0,0,rfl,rfl,by omega,by simpa using MaskOf.nil,by simp,by simp,rfl⟩
  case round=>
   obtain ⟨m,d,rfl,rfl,hd,hm,hr,hnd,rfl⟩:=hrel
   by_cases hlt:d < N
   ·obtain ⟨x,hx⟩:∃ b,ps[d]?=some b:=⟨_,List.getElem?_eq_getElem (by rw [← HN.out];exact hlt)⟩
    obtain ⟨b,off,rfl,hc⟩:=H.out d x hx
    have hmem:x ∈ ps:=List.mem_of_getElem? hx
    have HX:=Lib.hid hx
    clear hx
    by_cases hx0:x < 0
    ·have hf:permB ps=false:=by
      cases hb:permB ps with
      | false=>rfl
      | true=>have:=((permB_iff.1 hb).2.1 x hmem).1;omega
     have HFF:=Lib.hid hf
     clear hf hmem hm hr hnd
     go_wp2_with fail
     go_ret
     exact ⟨by rw [HFF.out];rfl,rfl⟩
    ·by_cases hx1:(N:Int) ≤ x
     ·have hf:permB ps=false:=by
       cases hb:permB ps with
       | false=>rfl
       | true=>have:=((permB_iff.1 hb).2.1 x hmem).2;have:=HN.out;omega
      have HFF:=Lib.hid hf
      clear hf hmem hm hr hnd
      go_wp2_with fail
      go_ret
      exact ⟨by rw [HFF.out];rfl,rfl⟩
     ·have hbit:=hm.bit (x:=x) (by omega)
      by_cases hin:x ∈ ps.take d
      ·have hf:permB ps=false:=by
        cases hb:permB ps with
        | false=>rfl
        | true=>
         have:=(permB_iff.1 hb).2.2
         rw [← List.take_append_drop d ps,List.nodup_append] at this
         refine absurd rfl (this.2.2 x hin x ?_)
         rw [List.drop_eq_getElem_cons (by rw [← HN.out];exact hlt)]
         have:=HX.out
         rw [List.getElem?_eq_getElem (by rw [← HN.out];exact hlt)] at this
         rw [Option.some.inj this]
         simp
       have HFF:=Lib.hid hf
       rw [decide_eq_true hin] at hbit
       clear hf hmem hm hr hnd hin
       have hx2:x ≤ 63:=by omega
       go_wp2_with fail
       go_ret
       exact ⟨by rw [HFF.out];rfl,rfl⟩
      ·rw [decide_eq_false hin] at hbit
       have hm2:=hm.add (x:=x) (by omega) (by omega)
       have hor:=or_i64 m (2 ^ x.toNat) (by have:=hm.1;omega) (Nat.lt_of_lt_of_le (Nat.pow_lt_pow_right (n:=16) (by decide) (by omega)) (by decide))
       have htk:=take_snoc HX.out
       rw [← htk] at hm2
       have hr2:∀ y ∈ ps.take (d + 1),0 ≤ y ∧ y < (N:Int):=fun y hy=>by
        rw [htk] at hy
        rcases List.mem_append.1 hy with hy | hy
        ·exact hr y hy
        ·rw [List.mem_singleton] at hy;subst hy;omega
       have hnd2:(ps.take (d + 1)).Nodup:=by
        rw [htk,List.nodup_append]
        exact ⟨hnd,by simp,fun y hy z hz e=>by rw [List.mem_singleton] at hz;subst e;subst hz;exact hin hy⟩
       have HM2:=Lib.hid hm2
       have HR2:=Lib.hid hr2
       have HND2:=Lib.hid hnd2
       push_cast at hor
       have hwp:=wrap_pow (x:=x) (by omega)
       clear hm hr hnd hm2 hr2 hnd2 hmem hin htk
       have hx2:x ≤ 63:=by omega
       go_wp2_with fail
       go_roundg (gk - 1)
       case rel=>exact ⟨m ||| 2 ^ x.toNat,d + 1,rfl,by simp,by omega,HM2.out,HR2.out,HND2.out,rfl⟩
       case measure=>omega
   ·have hd2:d=N:=by omega
    have ht:permB ps=true:=by
     have e1:ps.take d=ps:=List.take_of_length_le (by rw [← HN.out];omega)
     rw [e1] at hr hnd
     exact permB_iff.2 ⟨by have:=HN.out;omega,fun x hx=>by have:=hr x hx;have:=HN.out;omega,hnd⟩
    have HFF:=Lib.hid ht
    clear hm hr hnd ht
    go_wp2_with fail
    go_ret
    exact ⟨by rw [HFF.out];rfl,rfl⟩

end Go.Proofs.YtpgcbmbnognieaaGreat
