/-
  A number's bytes: seven bits a byte, the low ones first. No program in sight.
-/
import Derived.Test.YtfpjogpjocedaaaGreatPPermR
import Derived.Laws.BytesArg
import Derived.IntWalk
namespace Go.Proofs.YtfpjogpjocedaaaGreat
set_option linter.unusedSimpArgs false
set_option linter.unusedVariables false
set_option maxHeartbeats 600000

def putB (n:Nat):List Int:=if n < 128 then [(n:Int)] else ((n % 128 + 128:Nat):Int) :: putB (n / 128)
termination_by n
decreasing_by omega

theorem putB_low {n:Nat} (h:n < 128):putB n=[(n:Int)]:=by rw [putB,if_pos h]

theorem putB_more {n:Nat} (h:¬ n < 128):putB n=((n % 128 + 128:Nat):Int) :: putB (n / 128):=by rw [putB,if_neg h]

theorem putB_len:∀ (k n:Nat),n < 128 ^ (k + 1) → (putB n).length ≤ k + 1:=by
 intro k
 induction k with
 | zero=>intro n h;rw [putB_low (by omega)];exact Nat.le_refl _
 | succ k ih=>
  intro n h
  by_cases hn:n < 128
  ·rw [putB_low hn];show 1 ≤ _;omega
  ·rw [putB_more hn,List.length_cons]
   have:=ih (n / 128) (by rw [Nat.pow_succ] at h;exact Nat.div_lt_of_lt_mul (by rw [Nat.mul_comm];exact h))
   omega

theorem putB_len10 {n:Nat} (h:n < 2 ^ 64):(putB n).length ≤ 10:=putB_len 9 n (Nat.lt_of_lt_of_le h (by decide))

theorem putB_pos (n:Nat):1 ≤ (putB n).length:=by
 by_cases hn:n < 128
 ·rw [putB_low hn];exact Nat.le_refl _
 ·rw [putB_more hn,List.length_cons];omega

theorem putB_range:∀ (N n:Nat),n < N → ∀ x ∈ putB n,0 ≤ x ∧ x ≤ 255:=by
 intro N
 induction N with
 | zero=>intro n h;omega
 | succ N ih=>
  intro n h x hx
  by_cases hn:n < 128
  ·rw [putB_low hn,List.mem_singleton] at hx
   omega
  ·rw [putB_more hn,List.mem_cons] at hx
   rcases hx with rfl | hx
   ·omega
   ·exact ih (n / 128) (by omega) x hx

def byteVs (bs:List Int):List Value:=bs.map (Value.int .u8)

theorem byteVs_append (a b:List Int):byteVs (a ++ b)=byteVs a ++ byteVs b:=List.map_append

theorem byteVs_len (a:List Int):(byteVs a).length=a.length:=List.length_map _

theorem byteVs_one (a:List Int):∀ u ∈ byteVs a,u.oneCell'=true:=fun u hu=>by
 obtain ⟨x,_,rfl⟩:=List.mem_map.1 hu
 rfl

theorem wrap_byte (m:Nat):IntKind.u8.wrap (m:Int)=((m % 256:Nat):Int):=by
 have h:((m % 256:Nat):Int)=(m:Int) % 256:=by omega
 rw [h]
 unfold IntKind.wrap
 simp [IntKind.signed,IntKind.bits]

theorem or_byte (m:Nat):bits BinOp.or IntKind.u8 ((m % 256:Nat):Int) 128=((m % 128 + 128:Nat):Int):=by
 have key:∀ k:Fin 256,bits BinOp.or IntKind.u8 ((k.val:Nat):Int) 128=((k.val % 128 + 128:Nat):Int):=by decide +kernel
 have:=key ⟨m % 256,Nat.mod_lt _ (by decide)⟩
 rw [this]
 simp only
 have:m % 256 % 128=m % 128:=Nat.mod_mod_of_dvd _ (by decide)
 rw [this]

def getG:Nat → List Int → Option (Nat × List Int)
 | 0,_=>none
 | _ + 1,[]=>none
 | k + 1,c :: cs=>if c < 128 then some (c.toNat,cs) else match getG k cs with
  | none=>none
  | some (m,r)=>if m=0 then none else some (c.toNat % 128 + 128 * m,r)

theorem getG_low {k:Nat} {c:Int} (h:c < 128) (cs:List Int):getG (k + 1) (c :: cs)=some (c.toNat,cs):=by
 rw [getG,if_pos h]

theorem getG_more {k:Nat} {c:Int} (h:¬ c < 128) (cs:List Int):getG (k + 1) (c :: cs)=match getG k cs with
  | none=>none
  | some (m,r)=>if m=0 then none else some (c.toNat % 128 + 128 * m,r):=by
 rw [getG,if_neg h]

def getB (most:Nat) (bs:List Int):Option (Nat × List Int):=match getG 10 bs with
 | none=>none
 | some (n,r)=>if n ≤ most then some (n,r) else none

def IsBs (bs:List Int):Prop:=∀ x ∈ bs,0 ≤ x ∧ x ≤ 255

theorem getG_put:∀ (k n:Nat) (r:List Int),n < 128 ^ (k + 1) → getG (k + 1) (putB n ++ r)=some (n,r):=by
 intro k
 induction k with
 | zero=>
  intro n r h
  rw [putB_low (by omega)]
  exact getG_low (by omega) r
 | succ k ih=>
  intro n r h
  by_cases hn:n < 128
  ·rw [putB_low hn]
   exact getG_low (by omega) r
  ·rw [putB_more hn]
   have h2:=ih (n / 128) r (by rw [Nat.pow_succ] at h;exact Nat.div_lt_of_lt_mul (by rw [Nat.mul_comm];exact h))
   rw [List.cons_append,getG_more (by omega),h2]
   simp only []
   rw [if_neg (by omega)]
   have e:((n % 128 + 128:Nat):Int).toNat % 128 + 128 * (n / 128)=n:=by omega
   rw [e]

theorem getB_put {n most:Nat} (h:n ≤ most) (hn:n < 2 ^ 64) (r:List Int):getB most (putB n ++ r)=some (n,r):=by
 unfold getB
 rw [getG_put 9 n r (Nat.lt_of_lt_of_le hn (by decide))]
 simp only []
 rw [if_pos h]

structure PartG (bs:List Int) (i acc:Nat) (rest:List Int):Prop where
 all:∀ k r,getG (10 - i) rest=some (k,r) → ¬ (i ≠ 0 ∧ k=0) → getG 10 bs=some (acc + 128 ^ i * k,r)
 no:(getG (10 - i) rest=none ∨ ∃ r,i ≠ 0 ∧ getG (10 - i) rest=some (0,r)) → getG 10 bs=none
 low:acc < 128 ^ i

theorem PartG.start (bs:List Int):PartG bs 0 0 bs:=by
 refine ⟨fun k r h _=>?_,fun h=>?_,by decide⟩
 ·rw [Nat.pow_zero,Nat.one_mul,Nat.zero_add]
  exact h
 ·rcases h with h | ⟨r,h,_⟩
  ·exact h
  ·exact absurd rfl h

theorem PartG.next {bs cs:List Int} {i acc:Nat} {c:Int} (h:PartG bs i acc (c :: cs)) (hi:i < 9) (hc:128 ≤ c ∧ c ≤ 255):PartG bs (i + 1) (acc + 128 ^ i * (c.toNat % 128)) cs:=by
 have e:10 - i=(10 - (i + 1)) + 1:=by omega
 have hg:getG (10 - i) (c :: cs)=match getG (10 - (i + 1)) cs with | none=>none | some (m,r)=>if m=0 then none else some (c.toNat % 128 + 128 * m,r):=by
  rw [e]
  exact getG_more (by omega) cs
 refine ⟨fun k r hk h0=>?_,fun hn=>?_,?_⟩
 ·rw [hk] at hg
  simp only [] at hg
  have hk0:k ≠ 0:=fun hh=>h0 ⟨by omega,hh⟩
  rw [if_neg hk0] at hg
  have:=h.all _ r hg (fun hh=>by omega)
  rw [this]
  congr 2
  rw [Nat.pow_succ,Nat.mul_add,Nat.mul_assoc,Nat.add_assoc]
 ·apply h.no
  left
  rcases hn with hn | ⟨r,_,hn⟩
  ·rw [hn] at hg;exact hg
  ·rw [hn] at hg
   simpa using hg
 ·have hl:=h.low
  have h2:c.toNat % 128 ≤ 127:=by omega
  have h3:128 ^ i * (c.toNat % 128) ≤ 128 ^ i * 127:=Nat.mul_le_mul_left _ h2
  rw [Nat.pow_succ]
  omega

theorem PartG.last {bs cs:List Int} {i acc:Nat} {c:Int} (h:PartG bs i acc (c :: cs)) (hi:i ≤ 9) (hc:0 ≤ c ∧ c < 128) (h0:¬ (i ≠ 0 ∧ c=0)):getG 10 bs=some (acc + 128 ^ i * c.toNat,cs):=by
 have e:10 - i=(9 - i) + 1:=by omega
 refine h.all c.toNat cs ?_ (fun hh=>h0 ⟨hh.1,by omega⟩)
 rw [e]
 exact getG_low hc.2 cs

theorem PartG.zero {bs cs:List Int} {i acc:Nat} (h:PartG bs i acc (0 :: cs)) (hi:i ≤ 9) (h0:i ≠ 0):getG 10 bs=none:=by
 have e:10 - i=(9 - i) + 1:=by omega
 refine h.no (.inr ⟨cs,h0,?_⟩)
 rw [e]
 rfl

theorem PartG.end {bs:List Int} {i acc:Nat} (h:PartG bs i acc []) (hi:i ≤ 9):getG 10 bs=none:=by
 have e:10 - i=(9 - i) + 1:=by omega
 refine h.no (.inl ?_)
 rw [e]
 rfl

theorem PartG.great {bs cs:List Int} {acc:Nat} {c:Int} (h:PartG bs 9 acc (c :: cs)) (hc:1 < c ∧ c ≤ 255):getG 10 bs=none ∨ ∃ n r,getG 10 bs=some (n,r) ∧ 2 ^ 64 ≤ n:=by
 by_cases hlt:c < 128
 ·right
  refine ⟨_,_,h.last (Nat.le_refl _) ⟨by omega,hlt⟩ (fun hh=>by omega),?_⟩
  have:2 ≤ c.toNat:=by omega
  have h2:128 ^ 9 * 2 ≤ 128 ^ 9 * c.toNat:=Nat.mul_le_mul_left _ this
  have e:(2:Nat) ^ 64=128 ^ 9 * 2:=by decide
  omega
 ·left
  apply h.no
  left
  rw [show 10 - 9=0 + 1 from rfl,getG_more hlt]
  rfl

theorem PartG.fits {i acc:Nat} {c:Int} (hl:acc < 128 ^ i) (hi:i ≤ 9) (hc:0 ≤ c ∧ c < 128) (h9:i=9 → c ≤ 1):acc + 128 ^ i * c.toNat < 2 ^ 64:=by
 by_cases h:i=9
 ·subst h
  have:c.toNat ≤ 1:=by have:=h9 rfl;omega
  have h2:128 ^ 9 * c.toNat ≤ 128 ^ 9 * 1:=Nat.mul_le_mul_left _ this
  have e:(2:Nat) ^ 64=128 ^ 9 * 2:=by decide
  omega
 ·have h1:c.toNat ≤ 127:=by omega
  have h2:128 ^ i * c.toNat ≤ 128 ^ i * 127:=Nat.mul_le_mul_left _ h1
  have h3:128 ^ (i + 1) ≤ 128 ^ 9:=Nat.pow_le_pow_right (by decide) (by omega)
  rw [Nat.pow_succ] at h3
  have e:(2:Nat) ^ 64=128 ^ 9 * 2:=by decide
  omega

open Go.RowKit

def digS (k:Int):ByteArray:=strOfNums [48 + k]

set_option maxRecDepth 100000 in
theorem num_calls (k:Int) (w:World) (h0:0 ≤ k) (h1:k < 10):Calls Tryz.prog 138 #[.int .i64 k] w fun e w'=>e=.returned (.string (digS k)) ∧ Keeps w w':=by
 have hcv:=run_convert_bytes_arg (P:=Tryz.prog) (w.alloc (.cells #[.int .u8 (48 + k)] 5)) 24 5 rfl rfl w.heap.size 0 1 1 [48 + k] rfl (fun i hi=>by
  have hi0:i=0:=by omega
  subst hi0
  simp) 9 rfl
 go_enter Tryz.func138,Tryz.ntmps138
 go_wp2
 go_ret
 exact ⟨rfl,by (exact kp)⟩

theorem tag_calls (k:Int) (w:World) (h0:0 ≤ k) (h1:k < 10):Calls Tryz.prog 139 #[.int .i64 k] w fun e w'=>e=.returned (.string (digS k ++ ⟨#[64]⟩)) ∧ Keeps w w':=by
 have HN:=Lib.hid (fun W=>num_calls k W h0 h1)
 go_enter Tryz.func139,Tryz.ntmps139
 go_wp2_with (first | (go_at_call 138;refine (HN.out _).mono ?_;rintro e w1 ⟨rfl,hk⟩) | fail)
 go_ret
 exact ⟨rfl,by (exact kp)⟩

def TabAt (w:World) (B off:Nat) (ts:List Bool):Prop:=∀ (i:Nat) (b:Bool),ts[i]?=some b → w.cell? ⟨B,off + i,none⟩=some (.bool b)

theorem TabAt.keeps {w W:World} {B off:Nat} {ts:List Bool} (h:TabAt w B off ts) (hk:Keeps w W):TabAt W B off ts:=fun i b hb=>hk.cell (h i b hb)

theorem TabAt.drop {w:World} {B off:Nat} {ts:List Bool} (h:TabAt w B off ts) (n:Nat):TabAt w B (off + n) (ts.drop n):=fun i b hb=>by
 rw [List.getElem?_drop] at hb
 have:=h (n + i) b hb
 rwa [← Nat.add_assoc] at this

theorem TabAt.take {w:World} {B off:Nat} {ts:List Bool} (h:TabAt w B off ts) (n:Nat):TabAt w B off (ts.take n):=fun i b hb=>by
 rw [List.getElem?_take] at hb
 split at hb
 ·exact h i b hb
 ·cases hb

def noneL:List Bool → Bool
 | []=>true
 | b :: t=>!b && noneL t

theorem noneL_drop {ts:List Bool} {i:Nat} {b:Bool} (h:ts[i]?=some b):noneL (ts.drop i)=(!b && noneL (ts.drop (i + 1))):=by
 obtain ⟨hi,hb⟩:=List.getElem?_eq_some_iff.1 h
 rw [List.drop_eq_getElem_cons hi,hb]
 rfl

def sameL:List Bool → List Bool → Bool
 | [],[]=>true
 | a :: s,b :: t=>decide (a=b) && sameL s t
 | _,_=>false

theorem sameL_iff:∀ {s t:List Bool},sameL s t=true ↔ s=t
 | [],[]=>by simp [sameL]
 | a :: s,b :: t=>by simp [sameL,sameL_iff]
 | [],b :: t=>by simp [sameL]
 | a :: s,[]=>by simp [sameL]

theorem sameL_len {s t:List Bool} (h:s.length ≠ t.length):sameL s t=false:=by
 cases hs:sameL s t with
 | false=>rfl
 | true=>exact absurd (congrArg List.length (sameL_iff.1 hs)) h

theorem sameL_drop {s t:List Bool} {i:Nat} {a b:Bool} (ha:s[i]?=some a) (hb:t[i]?=some b):sameL (s.drop i) (t.drop i)=(decide (a=b) && sameL (s.drop (i + 1)) (t.drop (i + 1))):=by
 obtain ⟨hi,ha⟩:=List.getElem?_eq_some_iff.1 ha
 obtain ⟨hj,hb⟩:=List.getElem?_eq_some_iff.1 hb
 rw [List.drop_eq_getElem_cons hi,List.drop_eq_getElem_cons hj,ha,hb]
 rfl

theorem none13_calls {B off:Nat} {ts:List Bool} (cap:Nat) (w:World) (h:TabAt w B off ts) (hl:ts.length ≤ 1048576) :
  Calls Tryz.prog 145 #[.slice (some ⟨B,off,none⟩) ts.length cap] w fun e w'=>e=.returned (.bool (noneL ts)) ∧ w=w':=by
 obtain ⟨N,hN⟩:∃ N,N=ts.length:=⟨_,rfl⟩
 rw [← hN] at hl ⊢
 have H:=Lib.hid h
 have HN:=Lib.hid hN
 clear h hN
 go_enter Tryz.func145,Tryz.ntmps145
 go_wp2
 go_loopg [3] N (fun gk s3 wr=>∃ d:Nat,s3=.int .i64 (d:Int) ∧ d + gk=N ∧ noneL (ts.drop d)=noneL ts ∧ w=wr)
 case atStart=>exact ⟨0,rfl,by omega,rfl,rfl⟩
 case round=>
  obtain ⟨d,rfl,hd,hn,rfl⟩:=hrel
  have HNN:=Lib.hid hn
  clear hn
  by_cases hlt:d < N
  ·obtain ⟨b,hb⟩:∃ b,ts[d]?=some b:=⟨_,List.getElem?_eq_getElem (by rw [← HN.out];exact hlt)⟩
   have c0:=H.out d b hb
   have hdr:=noneL_drop hb
   have HD:=Lib.hid hdr
   clear hdr hb
   cases b
   ·go_wp2_with fail
    go_roundg (gk - 1)
    case rel=>exact ⟨d + 1,by simp,by omega,by rw [← HNN.out,HD.out];rfl,rfl⟩
    case measure=>omega
   ·go_wp2_with fail
    go_ret
    exact ⟨by rw [← HNN.out,HD.out];rfl,rfl⟩
  ·have hg0:d=N:=by omega
   have hh:noneL ts=true:=by rw [← HNN.out,List.drop_of_length_le (by rw [← HN.out];omega)];rfl
   have HH:=Lib.hid hh
   clear hg0 hh
   go_wp2_with fail
   go_ret
   exact ⟨by rw [HH.out];rfl,rfl⟩

theorem none15_calls {B off:Nat} {ts:List Bool} (cap:Nat) (w:World) (h:TabAt w B off ts) (hl:ts.length ≤ 1048576) :
  Calls Tryz.prog 148 #[.slice (some ⟨B,off,none⟩) ts.length cap] w fun e w'=>e=.returned (.bool (noneL ts)) ∧ w=w':=by
 obtain ⟨N,hN⟩:∃ N,N=ts.length:=⟨_,rfl⟩
 rw [← hN] at hl ⊢
 have H:=Lib.hid h
 have HN:=Lib.hid hN
 clear h hN
 go_enter Tryz.func148,Tryz.ntmps148
 go_wp2
 go_loopg [3] N (fun gk s3 wr=>∃ d:Nat,s3=.int .i64 (d:Int) ∧ d + gk=N ∧ noneL (ts.drop d)=noneL ts ∧ w=wr)
 case atStart=>exact ⟨0,rfl,by omega,rfl,rfl⟩
 case round=>
  obtain ⟨d,rfl,hd,hn,rfl⟩:=hrel
  have HNN:=Lib.hid hn
  clear hn
  by_cases hlt:d < N
  ·obtain ⟨b,hb⟩:∃ b,ts[d]?=some b:=⟨_,List.getElem?_eq_getElem (by rw [← HN.out];exact hlt)⟩
   have c0:=H.out d b hb
   have hdr:=noneL_drop hb
   have HD:=Lib.hid hdr
   clear hdr hb
   cases b
   ·go_wp2_with fail
    go_roundg (gk - 1)
    case rel=>exact ⟨d + 1,by simp,by omega,by rw [← HNN.out,HD.out];rfl,rfl⟩
    case measure=>omega
   ·go_wp2_with fail
    go_ret
    exact ⟨by rw [← HNN.out,HD.out];rfl,rfl⟩
  ·have hg0:d=N:=by omega
   have hh:noneL ts=true:=by rw [← HNN.out,List.drop_of_length_le (by rw [← HN.out];omega)];rfl
   have HH:=Lib.hid hh
   clear hg0 hh
   go_wp2_with fail
   go_ret
   exact ⟨by rw [HH.out];rfl,rfl⟩

theorem none16_calls {B off:Nat} {ts:List Bool} (cap:Nat) (w:World) (h:TabAt w B off ts) (hl:ts.length ≤ 1048576) :
  Calls Tryz.prog 150 #[.slice (some ⟨B,off,none⟩) ts.length cap] w fun e w'=>e=.returned (.bool (noneL ts)) ∧ w=w':=by
 obtain ⟨N,hN⟩:∃ N,N=ts.length:=⟨_,rfl⟩
 rw [← hN] at hl ⊢
 have H:=Lib.hid h
 have HN:=Lib.hid hN
 clear h hN
 go_enter Tryz.func150,Tryz.ntmps150
 go_wp2
 go_loopg [3] N (fun gk s3 wr=>∃ d:Nat,s3=.int .i64 (d:Int) ∧ d + gk=N ∧ noneL (ts.drop d)=noneL ts ∧ w=wr)
 case atStart=>exact ⟨0,rfl,by omega,rfl,rfl⟩
 case round=>
  obtain ⟨d,rfl,hd,hn,rfl⟩:=hrel
  have HNN:=Lib.hid hn
  clear hn
  by_cases hlt:d < N
  ·obtain ⟨b,hb⟩:∃ b,ts[d]?=some b:=⟨_,List.getElem?_eq_getElem (by rw [← HN.out];exact hlt)⟩
   have c0:=H.out d b hb
   have hdr:=noneL_drop hb
   have HD:=Lib.hid hdr
   clear hdr hb
   cases b
   ·go_wp2_with fail
    go_roundg (gk - 1)
    case rel=>exact ⟨d + 1,by simp,by omega,by rw [← HNN.out,HD.out];rfl,rfl⟩
    case measure=>omega
   ·go_wp2_with fail
    go_ret
    exact ⟨by rw [← HNN.out,HD.out];rfl,rfl⟩
  ·have hg0:d=N:=by omega
   have hh:noneL ts=true:=by rw [← HNN.out,List.drop_of_length_le (by rw [← HN.out];omega)];rfl
   have HH:=Lib.hid hh
   clear hg0 hh
   go_wp2_with fail
   go_ret
   exact ⟨by rw [HH.out];rfl,rfl⟩

theorem same_calls {B B2 off off2:Nat} {ss ts:List Bool} (cap cap2:Nat) (w:World) (h1:TabAt w B off ss) (h2:TabAt w B2 off2 ts) (hl1:ss.length ≤ 1048576) (hl2:ts.length ≤ 1048576) :
  Calls Tryz.prog 142 #[.slice (some ⟨B,off,none⟩) ss.length cap,.slice (some ⟨B2,off2,none⟩) ts.length cap2] w fun e w'=>e=.returned (.bool (sameL ss ts)) ∧ Keeps w w':=by
 by_cases hne:ss.length=ts.length
 ·obtain ⟨N,hN⟩:∃ N,N=ss.length:=⟨_,rfl⟩
  have hM:N=ts.length:=hN.trans hne
  rw [← hM,← hN]
  rw [← hN] at hl1
  have H1:=Lib.hid h1
  have H2:=Lib.hid h2
  have HN:=Lib.hid hN
  have HM:=Lib.hid hM
  clear h1 h2 hN hM hne hl2
  go_enter Tryz.func142,Tryz.ntmps142
  go_wp2
  go_loopg [5] N (fun gk s5 wr=>∃ d:Nat,s5=.int .i64 (d:Int) ∧ d + gk=N ∧ sameL (ss.drop d) (ts.drop d)=sameL ss ts ∧ Keeps w wr)
  case atStart=>exact ⟨0,rfl,by omega,rfl,by (exact kp)⟩
  case round=>
   obtain ⟨d,rfl,hd,hn,hk⟩:=hrel
   have HNN:=Lib.hid hn
   clear hn
   by_cases hlt:d < N
   ·obtain ⟨a,ha⟩:∃ b,ss[d]?=some b:=⟨_,List.getElem?_eq_getElem (by rw [← HN.out];exact hlt)⟩
    obtain ⟨b,hb⟩:∃ b,ts[d]?=some b:=⟨_,List.getElem?_eq_getElem (by rw [← HM.out];exact hlt)⟩
    have c0:=hk.cell (H1.out d a ha)
    have c1:=hk.cell (H2.out d b hb)
    have hdr:=sameL_drop ha hb
    have HD:=Lib.hid hdr
    have i0:(0:Int) ≤ (d:Int):=by omega
    have i1:(d:Int) < (N:Int):=by omega
    clear hdr ha hb
    cases a <;> cases b
    case false.false=>
     go_wp2_with fail
     go_quiet (fail)
     go_wp2
     go_roundg (gk - 1)
     case rel=>exact ⟨d + 1,by simp,by omega,by rw [← HNN.out,HD.out];rfl,by (exact kp)⟩
     case measure=>omega
    case true.true=>
     go_wp2_with fail
     go_quiet (fail)
     go_wp2
     go_roundg (gk - 1)
     case rel=>exact ⟨d + 1,by simp,by omega,by rw [← HNN.out,HD.out];rfl,by (exact kp)⟩
     case measure=>omega
    all_goals
     go_wp2_with fail
     go_quiet (fail)
     go_wp2
     go_ret
     exact ⟨by rw [← HNN.out,HD.out];rfl,by (exact kp)⟩
   ·have hg0:d=N:=by omega
    have hh:sameL ss ts=true:=by rw [← HNN.out,List.drop_of_length_le (by rw [← HN.out];omega),List.drop_of_length_le (by rw [← HM.out];omega)];rfl
    have HH:=Lib.hid hh
    clear hg0 hh
    go_wp2_with fail
    go_ret
    exact ⟨by rw [HH.out];rfl,hk⟩
 ·have hf:=sameL_len hne
  obtain ⟨N,hN⟩:∃ N,N=ss.length:=⟨_,rfl⟩
  obtain ⟨K,hK⟩:∃ K,K=ts.length:=⟨_,rfl⟩
  rw [hf]
  rw [← hN,← hK] at hne ⊢
  have gne:((N:Int) != (K:Int))=true:=by simp;omega
  clear h1 h2 hl1 hl2 hN hK hf hne
  go_enter Tryz.func142,Tryz.ntmps142
  go_wp2
  go_ret
  exact ⟨rfl,by (exact kp)⟩

theorem halves12_calls {B off:Nat} (p cap:Nat) (w:World) (hp1:1 ≤ p) (hp:2 * p ≤ cap) (hc:cap ≤ 1048576) :
  Calls Tryz.prog 141 #[.slice (some ⟨B,off,none⟩) (2 * p) cap] w fun e w'=>e=.returned (.tuple #[.slice (some ⟨B,off,none⟩) p cap,.slice (some ⟨B,off + p,none⟩) p (cap - p)]) ∧ Keeps w w':=by
 have q1:(2 * (p:Int)) / 2=(p:Int):=by omega
 have q2:((2 * (p:Int)).tdiv 2)=(p:Int):=by rw [Int.tdiv_eq_ediv_of_nonneg (by omega)];exact q1
 go_enter Tryz.func141,Tryz.ntmps141
 go_wp2_with fail
 go_quiet (fail)
 go_wp2
 rw [show 2 * p - p=p by omega]
 go_ret2
 exact ⟨rfl,by (exact kp)⟩

theorem halves13_calls {B off:Nat} (p cap:Nat) (w:World) (hp1:1 ≤ p) (hp:2 * p ≤ cap) (hc:cap ≤ 1048576) :
  Calls Tryz.prog 144 #[.slice (some ⟨B,off,none⟩) (2 * p) cap] w fun e w'=>e=.returned (.tuple #[.slice (some ⟨B,off,none⟩) p cap,.slice (some ⟨B,off + p,none⟩) p (cap - p)]) ∧ Keeps w w':=by
 have q1:(2 * (p:Int)) / 2=(p:Int):=by omega
 have q2:((2 * (p:Int)).tdiv 2)=(p:Int):=by rw [Int.tdiv_eq_ediv_of_nonneg (by omega)];exact q1
 go_enter Tryz.func144,Tryz.ntmps144
 go_wp2_with fail
 go_quiet (fail)
 go_wp2
 rw [show 2 * p - p=p by omega]
 go_ret2
 exact ⟨rfl,by (exact kp)⟩

theorem halves14_calls {B off:Nat} (p cap:Nat) (w:World) (hp1:1 ≤ p) (hp:2 * p ≤ cap) (hc:cap ≤ 1048576) :
  Calls Tryz.prog 147 #[.slice (some ⟨B,off,none⟩) (2 * p) cap] w fun e w'=>e=.returned (.tuple #[.slice (some ⟨B,off,none⟩) p cap,.slice (some ⟨B,off + p,none⟩) p (cap - p)]) ∧ Keeps w w':=by
 have q1:(2 * (p:Int)) / 2=(p:Int):=by omega
 have q2:((2 * (p:Int)).tdiv 2)=(p:Int):=by rw [Int.tdiv_eq_ediv_of_nonneg (by omega)];exact q1
 go_enter Tryz.func147,Tryz.ntmps147
 go_wp2_with fail
 go_quiet (fail)
 go_wp2
 rw [show 2 * p - p=p by omega]
 go_ret2
 exact ⟨rfl,by (exact kp)⟩

theorem halves15_calls {B off:Nat} (p cap:Nat) (w:World) (hp1:1 ≤ p) (hp:2 * p ≤ cap) (hc:cap ≤ 1048576) :
  Calls Tryz.prog 149 #[.slice (some ⟨B,off,none⟩) (2 * p) cap] w fun e w'=>e=.returned (.tuple #[.slice (some ⟨B,off,none⟩) p cap,.slice (some ⟨B,off + p,none⟩) p (cap - p)]) ∧ Keeps w w':=by
 have q1:(2 * (p:Int)) / 2=(p:Int):=by omega
 have q2:((2 * (p:Int)).tdiv 2)=(p:Int):=by rw [Int.tdiv_eq_ediv_of_nonneg (by omega)];exact q1
 go_enter Tryz.func149,Tryz.ntmps149
 go_wp2_with fail
 go_quiet (fail)
 go_wp2
 rw [show 2 * p - p=p by omega]
 go_ret2
 exact ⟨rfl,by (exact kp)⟩

theorem halves16_calls {B off:Nat} (p cap:Nat) (w:World) (hp1:1 ≤ p) (hp:2 * p ≤ cap) (hc:cap ≤ 1048576) :
  Calls Tryz.prog 151 #[.slice (some ⟨B,off,none⟩) (2 * p) cap] w fun e w'=>e=.returned (.tuple #[.slice (some ⟨B,off,none⟩) p cap,.slice (some ⟨B,off + p,none⟩) p (cap - p)]) ∧ Keeps w w':=by
 have q1:(2 * (p:Int)) / 2=(p:Int):=by omega
 have q2:((2 * (p:Int)).tdiv 2)=(p:Int):=by rw [Int.tdiv_eq_ediv_of_nonneg (by omega)];exact q1
 go_enter Tryz.func151,Tryz.ntmps151
 go_wp2_with fail
 go_quiet (fail)
 go_wp2
 rw [show 2 * p - p=p by omega]
 go_ret2
 exact ⟨rfl,by (exact kp)⟩

def unfS (f:Int) (M:St):Nat → Edge → ByteArray
 | 0,_=>⟨#[63]⟩
 | n + 1,e=>
  if f=5 then
   if e.to=0 then ⟨#[48]⟩ else if e.to=1 then digS e.tag ++ ⟨#[64]⟩ ++ ⟨#[49]⟩
   else digS e.tag ++ ⟨#[64]⟩ ++ ⟨#[40]⟩ ++ digS (grec (look M.cs e.to)).top ++ ⟨#[32]⟩ ++ unfS f M n (grec (look M.cs e.to)).lo ++ ⟨#[32]⟩ ++ unfS f M n (grec (look M.cs e.to)).hi ++ ⟨#[41]⟩
  else if e.to < 2 then digS e.to
  else if f=3 ∨ f=4 then ⟨#[40]⟩ ++ digS (grec (look M.cs e.to)).top ++ ⟨#[58]⟩ ++ digS (grec (look M.cs e.to)).bot ++ ⟨#[32]⟩ ++ unfS f M n (grec (look M.cs e.to)).lo ++ ⟨#[32]⟩ ++ unfS f M n (grec (look M.cs e.to)).hi ++ ⟨#[41]⟩
  else ⟨#[40]⟩ ++ digS (grec (look M.cs e.to)).top ++ ⟨#[32]⟩ ++ unfS f M n (grec (look M.cs e.to)).lo ++ ⟨#[32]⟩ ++ unfS f M n (grec (look M.cs e.to)).hi ++ ⟨#[41]⟩

theorem digS_size (k:Int):(digS k).size=1:=rfl

theorem unfS_size (f:Int) (M:St):∀ (n:Nat) (e:Edge),(unfS f M n e).size + 7 ≤ 8 * 2 ^ n:=by
 intro n
 induction n with
 | zero=>intro e;exact Nat.le_refl 8
 | succ n ih=>
  intro e
  have h1:=ih (grec (look M.cs e.to)).lo
  have h2:=ih (grec (look M.cs e.to)).hi
  have hp:0 < 2 ^ n:=Nat.pow_pos (by decide)
  have e2:2 ^ (n + 1)=2 * 2 ^ n:=by rw [Nat.pow_succ];omega
  rw [e2]
  unfold unfS
  split
  ·split
   ·show 1 + 7 ≤ _;omega
   ·split
    ·simp only [ByteArray.size_append,digS_size];show 1 + 1 + 1 + 7 ≤ _;omega
    ·simp only [ByteArray.size_append,digS_size]
     show 1 + 1 + 1 + 1 + 1 + _ + 1 + _ + 1 + 7 ≤ _
     omega
  ·split
   ·rw [digS_size];omega
   ·split
    ·simp only [ByteArray.size_append,digS_size]
     show 1 + 1 + 1 + 1 + 1 + _ + 1 + _ + 1 + 7 ≤ _
     omega
    ·simp only [ByteArray.size_append,digS_size]
     show 1 + 1 + 1 + _ + 1 + _ + 1 + 7 ≤ _
     omega

theorem unfS_few (f:Int) (M:St) {n:Nat} (hn:n ≤ 20) (e:Edge):(unfS f M n e).size ≤ 8388608:=by
 have h:=unfS_size f M n e
 have h1:2 ^ n ≤ 2 ^ 20:=Nat.pow_le_pow_right (by decide) hn
 have h2:(2:Nat) ^ 20=1048576:=rfl
 omega

theorem grec_small {M:St} (h:M.wf) (hn:M.n ≤ 9) (id:Int):(grec (look M.cs id)).top < 10 ∧ (grec (look M.cs id)).bot < 10:=by
 cases hl:look M.cs id with
 | none=>exact ⟨by decide,by decide⟩
 | some r=>
  have:=(h.goodRec hl).tb
  have:=(h.goodRec hl).bn
  show r.top < 10 ∧ r.bot < 10
  omega

end Go.Proofs.YtfpjogpjocedaaaGreat
