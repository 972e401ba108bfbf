/-
  Rows of ints; bits of a mask of 64 bits.
-/
import Derived.Test.YtiifimnpmbfihaaGreatPForeA
namespace Go.Proofs.YtiifimnpmbfihaaGreat
set_option linter.unusedSimpArgs false
set_option linter.unusedVariables false
set_option maxHeartbeats 600000
open Go.RowKit

def IntsAt (w:World) (a:Option Addr) (ps:List Int):Prop:=∀ i x,ps[i]?=some x → ∃ b off,a=some ⟨b,off,none⟩ ∧ w.cell? ⟨b,off + i,none⟩=some (.int .i64 x)

theorem IntsAt.keeps {w w':World} {a:Option Addr} {ps:List Int} (h:IntsAt w a ps) (hk:Keeps w w'):IntsAt w' a ps:=fun i x hx=>by
 obtain ⟨b,off,ha,hc⟩:=h i x hx
 exact ⟨b,off,ha,hk.cell hc⟩

theorem wrap_nat64 (n:Nat) (h:n < 2 ^ 63):IntKind.i64.wrap (n:Int)=(n:Int):=by
 have e:(n:Int) % 2 ^ 64=n:=Int.emod_eq_of_lt (by omega) (by omega)
 simp only [IntKind.wrap,IntKind.bits,IntKind.signed,e]
 rw [if_neg]
 simp
 omega

theorem and_one_i64 (E:Int) (h0:0 ≤ E) (h1:E ≤ 9223372036854775807):bits BinOp.and IntKind.i64 E 1=E % 2:=by
 obtain ⟨a,rfl⟩:∃ a:Nat,E=(a:Int):=⟨E.toNat,by omega⟩
 have hx2:a &&& 1=a % 2:=Nat.and_one_is_mod a
 have h1:(BitVec.ofInt 64 (a:Int)).toNat=a:=by
  rw [BitVec.ofInt_natCast,BitVec.toNat_ofNat];exact Nat.mod_eq_of_lt (by omega)
 have h2:(BitVec.ofInt 64 ((1:Nat):Int)).toNat=1:=by
  rw [BitVec.ofInt_natCast,BitVec.toNat_ofNat]
 show IntKind.i64.wrap ((BitVec.ofInt 64 (a:Int) &&& BitVec.ofInt 64 ((1:Nat):Int)).toNat:Int)=_
 rw [BitVec.toNat_and,h1,h2,hx2,wrap_nat64 _ (by omega)]
 omega

theorem or_i64 (a b:Nat) (ha:a < 2 ^ 62) (hb:b < 2 ^ 62):bits BinOp.or IntKind.i64 (a:Int) (b:Int)=((a ||| b:Nat):Int):=by
 have h1:∀ c:Nat,c < 2 ^ 62 → (BitVec.ofInt 64 (c:Int)).toNat=c:=fun c hc=>by
  rw [BitVec.ofInt_natCast,BitVec.toNat_ofNat];exact Nat.mod_eq_of_lt (by omega)
 have hx:a ||| b < 2 ^ 62:=Nat.or_lt_two_pow ha hb
 show IntKind.i64.wrap ((BitVec.ofInt 64 (a:Int) ||| BitVec.ofInt 64 (b:Int)).toNat:Int)=_
 rw [BitVec.toNat_or,h1 a ha,h1 b hb,wrap_nat64 _ (by omega)]

def MaskOf (m:Nat) (l:List Int):Prop:=m < 65536 ∧ ∀ j:Nat,m.testBit j=true ↔ (j:Int) ∈ l

theorem MaskOf.nil:MaskOf 0 []:=⟨by decide,fun j=>by simp⟩

theorem MaskOf.add {m:Nat} {l:List Int} {x:Int} (h:MaskOf m l) (h0:0 ≤ x) (h1:x < 16):MaskOf (m ||| 2 ^ x.toNat) (l ++ [x]):=by
 have hp:2 ^ x.toNat < 2 ^ 16:=Nat.pow_lt_pow_right (by decide) (by omega)
 refine ⟨Nat.or_lt_two_pow (n:=16) h.1 hp,fun j=>?_⟩
 rw [Nat.testBit_or,Bool.or_eq_true,h.2 j,List.mem_append,List.mem_singleton,Nat.testBit_two_pow]
 simp only [decide_eq_true_eq]
 constructor
 ·rintro (a | a)
  ·exact .inl a
  ·exact .inr (by omega)
 ·rintro (a | a)
  ·exact .inl a
  ·exact .inr (by omega)

theorem MaskOf.bit {m:Nat} {l:List Int} {x:Int} (h:MaskOf m l) (h0:0 ≤ x):(bits BinOp.and IntKind.i64 ((m:Int) / 2 ^ x.toNat) 1 == 1)=decide (x ∈ l):=by
 have hm:=h.1
 have hp:(0:Int) < 2 ^ x.toNat:=Int.pow_pos (by decide)
 have a0:0 ≤ (m:Int) / 2 ^ x.toNat:=Int.ediv_nonneg (by omega) (by omega)
 have a1:(m:Int) / 2 ^ x.toNat ≤ m:=Int.ediv_le_self _ (by omega)
 rw [and_one_i64 _ a0 (by omega)]
 have hb:=h.2 x.toNat
 rw [show ((x.toNat:Nat):Int)=x by omega] at hb
 have e:(m:Int) / 2 ^ x.toNat=((m / 2 ^ x.toNat:Nat):Int):=by push_cast;rfl
 rw [e]
 have ht:m.testBit x.toNat=decide (m / 2 ^ x.toNat % 2=1):=Nat.testBit_eq_decide_div_mod_eq
 by_cases hin:x ∈ l
 ·have:=hb.2 hin
  rw [ht,decide_eq_true_eq] at this
  rw [decide_eq_true hin,beq_iff_eq]
  omega
 ·have:¬ m / 2 ^ x.toNat % 2=1:=fun hh=>hin (hb.1 (by rw [ht];exact decide_eq_true hh))
  rw [decide_eq_false hin,beq_eq_false_iff_ne]
  omega

end Go.Proofs.YtiifimnpmbfihaaGreat
