/-
  A number's bytes: seven bits a byte, the low ones first. No program in sight.
-/
import Derived.Test.YtiifimnpmbfihaaGreatPForeA
namespace Go.Proofs.YtiifimnpmbfihaaGreat
set_option linter.unusedSimpArgs false
set_option linter.unusedVariables false
set_option maxHeartbeats 600000

def putB (n:Nat):List Int:=if n < 128 then [(n:Int)] else ((n % 128 + 128:Nat):Int) :: putB (n / 128)
termination_by n
decreasing_by omega

theorem putB_low {n:Nat} (h:n < 128):putB n=[(n:Int)]:=by rw [putB,if_pos h]

theorem putB_more {n:Nat} (h:¬ n < 128):putB n=((n % 128 + 128:Nat):Int) :: putB (n / 128):=by rw [putB,if_neg h]

theorem putB_len:∀ (k n:Nat),n < 128 ^ (k + 1) → (putB n).length ≤ k + 1:=by
 intro k
 induction k with
 | zero=>intro n h;rw [putB_low (by omega)];exact Nat.le_refl _
 | succ k ih=>
  intro n h
  by_cases hn:n < 128
  ·rw [putB_low hn];show 1 ≤ _;omega
  ·rw [putB_more hn,List.length_cons]
   have:=ih (n / 128) (by rw [Nat.pow_succ] at h;exact Nat.div_lt_of_lt_mul (by rw [Nat.mul_comm];exact h))
   omega

theorem putB_len10 {n:Nat} (h:n < 2 ^ 64):(putB n).length ≤ 10:=putB_len 9 n (Nat.lt_of_lt_of_le h (by decide))

theorem putB_pos (n:Nat):1 ≤ (putB n).length:=by
 by_cases hn:n < 128
 ·rw [putB_low hn];exact Nat.le_refl _
 ·rw [putB_more hn,List.length_cons];omega

def byteVs (bs:List Int):List Value:=bs.map (Value.int .u8)

theorem byteVs_append (a b:List Int):byteVs (a ++ b)=byteVs a ++ byteVs b:=List.map_append

theorem byteVs_len (a:List Int):(byteVs a).length=a.length:=List.length_map _

theorem byteVs_one (a:List Int):∀ u ∈ byteVs a,u.oneCell'=true:=fun u hu=>by
 obtain ⟨x,_,rfl⟩:=List.mem_map.1 hu
 rfl

theorem wrap_byte (m:Nat):IntKind.u8.wrap (m:Int)=((m % 256:Nat):Int):=by
 have h:((m % 256:Nat):Int)=(m:Int) % 256:=by omega
 rw [h]
 unfold IntKind.wrap
 simp [IntKind.signed,IntKind.bits]

theorem or_byte (m:Nat):bits BinOp.or IntKind.u8 ((m % 256:Nat):Int) 128=((m % 128 + 128:Nat):Int):=by
 have key:∀ k:Fin 256,bits BinOp.or IntKind.u8 ((k.val:Nat):Int) 128=((k.val % 128 + 128:Nat):Int):=by decide +kernel
 have:=key ⟨m % 256,Nat.mod_lt _ (by decide)⟩
 rw [this]
 simp only
 have:m % 256 % 128=m % 128:=Nat.mod_mod_of_dvd _ (by decide)
 rw [this]

end Go.Proofs.YtiifimnpmbfihaaGreat
