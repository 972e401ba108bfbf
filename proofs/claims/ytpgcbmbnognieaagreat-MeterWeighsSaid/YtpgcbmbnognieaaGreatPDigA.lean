/-
  The document's digits: ramageref01.Double, trim, at, Digits.
-/
import Derived.Test.YtpgcbmbnognieaaGreatPNatA
namespace Go.Proofs.YtpgcbmbnognieaaGreat
set_option linter.unusedSimpArgs false
set_option linter.unusedVariables false
set_option maxHeartbeats 600000
open Go.RowKit

theorem rowV_owns {w:World} {lo:Nat} {v:Value} {os:List Int} {n:Nat} (hn:n=os.length) (h:w.ownsRow lo 3 1 v n (os.map (Value.int .i64))):∃ a cap,v=.slice a n cap ∧ RowV lo w a os:=by
 obtain ⟨a,cap,rfl,ha⟩:=owns_slice h
 refine ⟨a,cap,rfl,fun hne=>?_⟩
 obtain ⟨g,rfl⟩:=ha (fun e=>hne (List.length_eq_zero_iff.1 (by omega)))
 obtain ⟨r1,r2⟩:=rowI_owns h
 exact ⟨g,rfl,r2,r1⟩

theorem digit_range {v:Nat} {i:Nat} {x:Int} (h:(natW 10 v)[i]?=some x):0 ≤ x ∧ x ≤ 9:=by
 have:=natW_ok (b:=10) (by decide) v x (List.mem_of_getElem? h)
 omega

def DigOut (w:World) (e:Ending) (w':World) (os:List Int):Prop:=∃ a cap,e=.returned (.slice a os.length cap) ∧ RowV w.heap.size w' a os ∧ Keeps w w'

set_option maxRecDepth 100000 in
set_option maxHeartbeats 400000 in
theorem dbl_calls (a:Option Addr) (cap v:Nat) (c:Int) (w:World) (hc0:0 ≤ c) (hc1:c ≤ 1) (h:IntsAt w a (natW 10 v)) (hl:(natW 10 v).length ≤ 100000) :
  Calls Tryz.prog 86 #[.slice a (natW 10 v).length cap,.int .i64 c] w fun e w'=>DigOut w e w' (natW 10 (2 * v + c.toNat)):=by
 obtain ⟨i0,hi,hz0,hz1,hz2⟩:=info_parts info_int
 obtain ⟨ds,hds⟩:∃ ds,ds=natW 10 v:=⟨_,rfl⟩
 have hrg:∀ (i:Nat) (x:Int),ds[i]?=some x → 0 ≤ x ∧ x ≤ 9:=fun i x hx=>digit_range (v:=v) (by rw [← hds];exact hx)
 obtain ⟨R,hR⟩:∃ R,R=natW 10 (2 * v + c.toNat):=⟨_,rfl⟩
 have hall:([]:List Int) ++ dblL (ds.drop 0) c=R:=by rw [hR,hds,List.drop_zero,List.nil_append,dblL_nat v c hc0 hc1]
 rw [← hds] at h hl ⊢
 rw [← hR]
 clear hds hR
 obtain ⟨N,hN⟩:∃ N,N=ds.length:=⟨_,rfl⟩
 rw [← hN] at hl ⊢
 have HN:=Lib.hid hN
 have HI:=Lib.hid h
 have HRG:=Lib.hid hrg
 have HA:=Lib.hid hall
 clear h hN hrg hall
 go_enter Tryz.func86,Tryz.ntmps86
 go_wp2_with fail
 go_loopg [1,5,6] N (fun gk s1 s5 s6 wr=>∃ (i:Nat) (k:Int) (va:Value) (os:List Int),s1=.int .i64 k ∧ s5=va ∧ s6=.int .i64 (i:Int) ∧ i + gk=N ∧ 0 ≤ k ∧ k ≤ 1 ∧ os.length=i ∧ os ++ dblL (ds.drop i) k=R ∧ wr.ownsRow w.heap.size 3 1 va i (os.map (Value.int .i64)) ∧ Keeps w wr)
 case atStart=>exact ⟨0,c,_,[],rfl,rfl,rfl,by omega,hc0,hc1,rfl,HA.out,World.ownsRow_nil _ _ _ _,by (exact kp)⟩
 case round=>
  obtain ⟨i,k,va,os,rfl,rfl,rfl,hig,k0,k1,hol,hos,ho,hk⟩:=hrel
  obtain ⟨la,lcap,rfl,-⟩:=owns_slice ho
  have HO:=Lib.hid ho
  have HOS:=Lib.hid hos
  have HOL:=Lib.hid hol
  clear ho hos hol
  by_cases hlt:i < N
  ·obtain ⟨x,hx⟩:∃ x,ds[i]?=some x:=⟨_,List.getElem?_eq_getElem (by rw [← HN.out];exact hlt)⟩
   obtain ⟨b,off,rfl,hcell⟩:=(HI.out.keeps hk) i x hx
   obtain ⟨x0,x9⟩:=HRG.out i x hx
   have hbl:=lt_of_cell hcell
   dsimp only at hbl
   have HS:=Lib.hid (dblL_step HOS.out hx)
   have q0:(i:Int) < (N:Int):=by omega
   have q1:i + 1 ≤ maxLen:=by unfold maxLen;omega
   have q2:(i + 1) * 8 ≤ 140737488355328:=by omega
   clear hx
   go_wp2_with (first
    | (at_builtin;refine wpList_append_own _ rfl _ _ 38 rfl w.heap.size 3 i0 (.int .i64 0) 1 8 Tryz.underlying38 hi hz0 hz1 hz2 rfl (by decide) (.slice la i lcap) i (os.map (Value.int .i64)) rfl (HO.out.alloc _) ⟨wr.heap.size,0,none⟩ 1 1 [.int .i64 ((2 * x + k) % 10)] rfl rfl (cell_new _ _ _ _ rfl) (by simp [Value.oneCell']) (by exact q1) (by exact q2) (by have:=hk.size;simp;omega) ?_;intro v3 w3 hown3 hg3 _)
    | fail)
   go_roundg (gk - 1)
   case rel=>
    have hu3:Upd (fun k=>(Value.slice la i lcap).ownBlock=some k) wr w3:=Upd.grown (by repeat (first | exact Upd.refl _ _ | refine Upd.alloc ?_ _ | refine Upd.drew ?_)) hg3 (fun k hk=>.inl hk)
    refine ⟨i + 1,(2 * x + k) / 10,_,os ++ [(2 * x + k) % 10],rfl,rfl,congrArg (Value.int .i64) (by omega),by omega,by omega,by omega,by rw [List.length_append,HOL.out];rfl,HS.out,by rw [List.map_append];exact hown3,hk.new hu3 (fun k hk2=>?_)⟩
    rcases HO.out.2 with ⟨e0,_⟩ | ⟨g',cap',cur,e0,hbg,_⟩
    ·rw [e0] at hk2;simp [Value.ownBlock] at hk2
    ·rw [e0] at hk2;simp [Value.ownBlock] at hk2;omega
   case measure=>omega
  ·have hiN:i=N:=by omega
   subst hiN
   have q0:¬ (i:Int) < (i:Int):=by omega
   have HE:=Lib.hid (dblL_end (l:=ds) (os:=os) (c:=k) (R:=R) (by rw [← HN.out];exact HOS.out))
   by_cases hk0:0 < k
   ·have q1:i + 1 ≤ maxLen:=by unfold maxLen;omega
    have q2:(i + 1) * 8 ≤ 140737488355328:=by omega
    go_wp2_with (first
     | (at_builtin;refine wpList_append_own _ rfl _ _ 38 rfl w.heap.size 3 i0 (.int .i64 0) 1 8 Tryz.underlying38 hi hz0 hz1 hz2 rfl (by decide) (.slice la i lcap) i (os.map (Value.int .i64)) rfl (HO.out.alloc _) ⟨wr.heap.size,0,none⟩ 1 1 [.int .i64 k] rfl rfl (cell_new _ _ _ _ rfl) (by simp [Value.oneCell']) (by exact q1) (by exact q2) (by have:=hk.size;simp;omega) ?_;intro v3 w3 hown3 hg3 _)
     | fail)
    have hu3:Upd (fun k=>(Value.slice la i lcap).ownBlock=some k) wr w3:=Upd.grown (by repeat (first | exact Upd.refl _ _ | refine Upd.alloc ?_ _ | refine Upd.drew ?_)) hg3 (fun k hk=>.inl hk)
    have hkk:Keeps w w3:=hk.new hu3 (fun k hk2=>by
     rcases HO.out.2 with ⟨e0,_⟩ | ⟨g',cap',cur,e0,hbg,_⟩
     ·rw [e0] at hk2;simp [Value.ownBlock] at hk2
     ·rw [e0] at hk2;simp [Value.ownBlock] at hk2;omega)
    have hRe:R=os ++ [k]:=by rw [HE.out,if_pos hk0]
    have hRl:i + 1=R.length:=by rw [hRe,List.length_append,HOL.out];rfl
    obtain ⟨a',cap',rfl,hrv⟩:=rowV_owns (os:=R) (n:=i + 1) hRl (by rw [hRe,List.map_append];exact hown3)
    have HRL:=Lib.hid hRl
    have HRV:=Lib.hid hrv
    clear hRe hRl hrv
    go_wp2_with fail
    refine bodyPost_ret (v:=.slice a' (i + 1) cap') (by simp [results,Tryz.results86,go_sem]) rfl ⟨a',cap',by rw [← HRL.out],HRV.out,hkk⟩
   ·have hRe:R=os:=by rw [HE.out,if_neg hk0]
    have HRE:=Lib.hid hRe
    clear hRe
    go_wp2_with fail
    go_ret
    obtain ⟨a',cap',e1,hrv⟩:=rowV_owns (os:=R) (n:=i) (by rw [HRE.out,HOL.out]) (by rw [HRE.out];exact HO.out)
    cases e1
    exact ⟨la,lcap,by rw [HRE.out,HOL.out];rfl,hrv,hk⟩

set_option maxRecDepth 100000 in
theorem trim_calls (a:Option Addr) (cap:Nat) (ds:List Int) (w:World) (h:IntsAt w a ds) (hok:WordsOk 10 ds) (hl:ds.length ≤ 100000) (hc:ds.length ≤ cap) :
  Calls Tryz.prog 142 #[.slice a ds.length cap] w fun e w'=>e=.returned (.slice a (natW 10 (valW 10 ds).toNat).length cap) ∧ IntsAt w a (natW 10 (valW 10 ds).toNat) ∧ (natW 10 (valW 10 ds).toNat).length ≤ ds.length ∧ w=w':=by
 obtain ⟨N,hN⟩:∃ N,N=ds.length:=⟨_,rfl⟩
 have hlen:∀ n,n ≤ N → (ds.take n).length=n:=fun n hn=>by rw [List.length_take];omega
 have hfin:∀ n,n ≤ N → (∀ i x,n ≤ i → ds[i]?=some x → x=0) → (n=0 ∨ ∃ x,ds[n - 1]?=some x ∧ x ≠ 0) → (natW 10 (valW 10 ds).toNat).length=n ∧ IntsAt w a (natW 10 (valW 10 ds).toNat):=fun n hn h0 h1=>by
  have e:=wtake_trim (b:=10) (by decide) hok (by omega) h0 h1
  rw [← e]
  exact ⟨hlen n hn,fun i x hx=>by
   rw [List.getElem?_take] at hx
   split at hx
   ·exact h i x hx
   ·cases hx⟩
 have HN:=Lib.hid hN
 have HI:=Lib.hid h
 have hrg:∀ (i:Nat) (x:Int),ds[i]?=some x → 0 ≤ x ∧ x ≤ 9:=fun i x hx=>by have:=hok x (List.mem_of_getElem? hx);omega
 rw [← hN] at hl hc ⊢
 have HF:=Lib.hid hfin
 have HRG:=Lib.hid hrg
 clear hlen hfin h hok hN hrg
 go_enter Tryz.func142,Tryz.ntmps142
 go_wp2_with fail
 go_loopg [3] N (fun gk s3 wr=>s3=.int .i64 (gk:Int) ∧ gk ≤ N ∧ (∀ i x,gk ≤ i → ds[i]?=some x → x=0) ∧ w=wr)
 case atStart=>exact ⟨rfl,Nat.le_refl _,fun i x hi hx=>by
  have:=(List.getElem?_eq_some_iff.1 hx).1
  have:=HN.out
  omega,rfl⟩
 case round=>
  obtain ⟨rfl,hg,hz,rfl⟩:=hrel
  have HZ:=Lib.hid hz
  clear hz
  by_cases hg0:gk=0
  ·subst hg0
   have HE:=Lib.hid (HF.out 0 (Nat.zero_le _) HZ.out (.inl rfl))
   have hlt:¬ (0:Int) < ((0:Nat):Int):=by omega
   go_wp2_with fail
   go_ret
   exact ⟨by rw [HE.out.1];rfl,HE.out.2,by rw [HE.out.1];exact hg,rfl⟩
  ·obtain ⟨j,rfl⟩:∃ j,gk=j + 1:=⟨gk - 1,by omega⟩
   obtain ⟨x,hx⟩:∃ x,ds[j]?=some x:=⟨_,List.getElem?_eq_getElem (by have:=HN.out;omega)⟩
   obtain ⟨b,off,rfl,hcell⟩:=HI.out j x hx
   obtain ⟨x0,x9⟩:=HRG.out j x hx
   have hbl:=lt_of_cell hcell
   have HX:=Lib.hid hx
   have hp:(0:Int) < ((j + 1:Nat):Int):=by omega
   clear hx hg0
   by_cases hx0:x=0
   ·subst hx0
    go_wp2_with fail
    go_roundg j
    case rel=>exact ⟨rfl,by omega,fun i y hi hy=>by
     by_cases hij:i=j
     ·subst hij;rw [HX.out] at hy;exact (Option.some.inj hy).symm
     ·exact HZ.out i y (by omega) hy,rfl⟩
    case measure=>omega
   ·have hxe:(x == 0)=false:=by simpa using hx0
    have HE:=Lib.hid (HF.out (j + 1) hg HZ.out (.inr ⟨x,HX.out,hx0⟩))
    clear hx0
    go_wp2_with fail
    go_ret
    exact ⟨by rw [HE.out.1];rfl,HE.out.2,by rw [HE.out.1];exact hg,rfl⟩

theorem dat_calls (a:Option Addr) (cap:Nat) (ds:List Int) (i:Nat) (w:World) (h:IntsAt w a ds) (hl:ds.length ≤ 100000) (hi:i ≤ 100000) :
  Calls Tryz.prog 143 #[.slice a ds.length cap,.int .i64 (i:Int)] w fun e w'=>e=.returned (.int .i64 ((ds.drop i).headD 0)) ∧ w=w':=by
 by_cases hlt:i < ds.length
 ·have hx:ds[i]?=some ds[i]:=List.getElem?_eq_getElem hlt
  obtain ⟨x,hxe⟩:∃ x,x=ds[i]:=⟨_,rfl⟩
  rw [← hxe] at hx
  obtain ⟨b,off,rfl,hcell⟩:=h i x hx
  rw [drop_headD hx]
  have q:(i:Int) < (ds.length:Int):=by omega
  have hbl:=lt_of_cell hcell
  clear h hx hxe
  go_enter Tryz.func143,Tryz.ntmps143
  go_wp2_with fail
  go_ret
  exact ⟨rfl,rfl⟩
 ·rw [drop_headD_none (by omega)]
  have q:¬ (i:Int) < (ds.length:Int):=by omega
  clear h
  go_enter Tryz.func143,Tryz.ntmps143
  go_wp2_with fail
  go_ret
  exact ⟨rfl,rfl⟩

theorem digits_le {v k:Nat} (h:v < 10 ^ k):(natW 10 v).length ≤ k:=natW_len (by decide) h

theorem pow_dig (k:Nat):B64 ^ k ≤ 10 ^ (20 * k):=by
 rw [Nat.pow_mul]
 exact Nat.pow_le_pow_left (by decide) k

theorem digits_words {v k:Nat} (h:v < B64 ^ k):(natW 10 v).length ≤ 20 * k:=digits_le (Nat.lt_of_lt_of_le h (pow_dig k))

def upD (ws:List Int) (i:Nat) (j:Nat):Nat:=(valW B64 (ws.drop (i + 1))).toNat * 2 ^ j + ((ws.getD i 0).toNat / 2 ^ (64 - j))

theorem upD_lt {ws:List Int} (h:WordsOk B64 ws) (i j:Nat) (hi:i < ws.length) (hj:j ≤ 64):upD ws i j < B64 ^ ws.length:=by
 have h1:=valW_lt (h.drop (i + 1))
 have h0:=valW_nonneg (h.drop (i + 1))
 rw [List.length_drop] at h1
 obtain ⟨V,hV⟩:∃ V:Nat,valW B64 (ws.drop (i + 1))=(V:Int):=⟨_,(Int.toNat_of_nonneg h0).symm⟩
 have hx:=h (ws.getD i 0) (by rw [List.getD_eq_getElem?_getD,List.getElem?_eq_getElem hi];exact List.getElem_mem _)
 obtain ⟨x,hxe⟩:∃ x:Nat,ws.getD i 0=(x:Int):=⟨_,(Int.toNat_of_nonneg hx.1).symm⟩
 unfold upD
 rw [hV,hxe,Int.toNat_natCast,Int.toNat_natCast]
 rw [hV] at h1
 rw [hxe] at hx
 have h1':V < B64 ^ (ws.length - (i + 1)):=by
  have e:((B64 ^ (ws.length - (i + 1)):Nat):Int)=(B64:Int) ^ (ws.length - (i + 1)):=Int.natCast_pow _ _
  omega
 have hx2:x / 2 ^ (64 - j) < 2 ^ j:=by
  rw [Nat.div_lt_iff_lt_mul (Nat.two_pow_pos _),← Nat.pow_add,show j + (64 - j)=64 by omega]
  have:((B64:Nat):Int)=18446744073709551616:=rfl
  omega
 have h2:(V + 1) * 2 ^ j ≤ B64 ^ (ws.length - (i + 1)) * B64:=Nat.mul_le_mul h1' (by show 2 ^ j ≤ 2 ^ 64;exact Nat.pow_le_pow_right (by decide) hj)
 have e4:B64 ^ (ws.length - (i + 1) + 1)=B64 ^ (ws.length - (i + 1)) * B64:=Nat.pow_succ _ _
 rw [← e4,Nat.add_mul,Nat.one_mul] at h2
 have h3:B64 ^ (ws.length - (i + 1) + 1) ≤ B64 ^ ws.length:=Nat.pow_le_pow_right (by decide) (by omega)
 generalize V * 2 ^ j=P at *
 generalize 2 ^ j=Q at *
 generalize x / 2 ^ (64 - j)=T at *
 omega

theorem upD_zero (ws:List Int) (i:Nat) (h:WordsOk B64 ws):upD ws i 0=(valW B64 (ws.drop (i + 1))).toNat:=by
 unfold upD
 have:(ws.getD i 0).toNat / 2 ^ (64 - 0)=0:=by
  refine Nat.div_eq_of_lt ?_
  by_cases hi:i < ws.length
  ·have hx:=h (ws.getD i 0) (by rw [List.getD_eq_getElem?_getD,List.getElem?_eq_getElem hi];exact List.getElem_mem _)
   have:((B64:Nat):Int)=18446744073709551616:=rfl
   have e64:(2:Nat) ^ (64 - 0)=18446744073709551616:=rfl
   omega
  ·rw [List.getD_eq_getElem?_getD,List.getElem?_eq_none (by omega)]
   exact Nat.two_pow_pos _
 rw [this,Nat.pow_zero,Nat.mul_one,Nat.add_zero]

theorem upD_step (ws:List Int) (i j:Nat) (hj:j < 64):upD ws i (j + 1)=2 * upD ws i j + (ws.getD i 0).toNat / 2 ^ (63 - j) % 2:=by
 unfold upD
 rw [show 64 - (j + 1)=63 - j by omega,show 64 - j=(63 - j) + 1 by omega,Nat.pow_succ 2 (63 - j),Nat.pow_succ 2 j,← Nat.div_div_eq_div_mul]
 have:=Nat.div_add_mod ((ws.getD i 0).toNat / 2 ^ (63 - j)) 2
 rw [← Nat.mul_assoc]
 omega

theorem upD_full (ws:List Int) (i:Nat) (hi:i < ws.length) (h:WordsOk B64 ws):upD ws i 64=(valW B64 (ws.drop i)).toNat:=by
 obtain ⟨x,hx⟩:∃ x,ws[i]?=some x:=⟨_,List.getElem?_eq_getElem hi⟩
 have hxr:=h x (List.mem_of_getElem? hx)
 have h0:=valW_nonneg (h.drop (i + 1))
 unfold upD
 rw [drop_cons hx,List.getD_eq_getElem?_getD,hx]
 show (valW B64 (ws.drop (i + 1))).toNat * 2 ^ 64 + x.toNat / 2 ^ (64 - 64)=(x + B64 * valW B64 (ws.drop (i + 1))).toNat
 have eB:((B64:Nat):Int)=18446744073709551616:=rfl
 have e64:(2:Nat) ^ 64=18446744073709551616:=rfl
 rw [eB,e64,Nat.sub_self,Nat.pow_zero,Nat.div_one]
 omega

theorem pow_word {j:Nat} (h:j < 64):0 < ((2 ^ j:Nat):Int) ∧ ((2 ^ j:Nat):Int) < 18446744073709551616:=by
 have h1:2 ^ j < 2 ^ 64:=Nat.pow_lt_pow_right (by decide) h
 have h2:=Nat.two_pow_pos j
 have e64:(2:Nat) ^ 64=18446744073709551616:=rfl
 rw [e64] at h1
 generalize 2 ^ j=Q at *
 omega

theorem bit_word (x:Int) (h0:0 ≤ x) (k:Nat):x / (((2 ^ k:Nat):Int)) % 2=((x.toNat / 2 ^ k % 2:Nat):Int):=by
 obtain ⟨n,rfl⟩:=Int.eq_ofNat_of_zero_le h0
 rw [Int.toNat_natCast]
 push_cast
 rfl

set_option maxRecDepth 100000 in
set_option maxHeartbeats 800000 in
theorem digits_calls (a:Option Addr) (cap:Nat) (ws:List Int) (w:World) (h:WordsAt w a ws) (hl:ws.length ≤ 100) :
  Calls Tryz.prog 24 #[.slice a ws.length cap] w fun e w'=>DigOut w e w' (natW 10 (valW B64 ws).toNat):=by
 have hok:=words_ok h
 have hup:∀ i j,i < ws.length → j ≤ 64 → (natW 10 (upD ws i j)).length ≤ 100000:=fun i j hi hj=>by
  have:=digits_words (upD_lt hok i j hi hj)
  omega
 have hz:=fun i=>upD_zero ws i hok
 have hf:=fun i hi=>upD_full ws i hi hok
 have hrange:∀ (i:Nat) (x:Int),ws[i]?=some x → 0 ≤ x ∧ x < 18446744073709551616:=fun i x hx=>hok x (List.mem_of_getElem? hx)
 obtain ⟨N,hN⟩:∃ N,N=ws.length:=⟨_,rfl⟩
 rw [← hN] at hl ⊢
 rw [← hN] at hup hf
 have HN:=Lib.hid hN
 have HI:=Lib.hid h
 have HU:=Lib.hid hup
 have HZ:=Lib.hid hz
 have HF:=Lib.hid hf
 have HRG:=Lib.hid hrange
 clear h hN hup hz hf hrange hok
 go_enter Tryz.func24,Tryz.ntmps24
 go_wp2_with fail
 go_loopg [3,4,5,6] N (fun gk s3 s4 s5 s6 wr=>∃ (la:Option Addr) (lcap v:Nat),s4=.int .i64 ((gk:Int) - 1) ∧ s3=.slice la (natW 10 v).length lcap ∧ gk ≤ N ∧ v=(valW B64 (ws.drop gk)).toNat ∧ RowV w.heap.size wr la (natW 10 v) ∧ Keeps w wr)
 case atStart=>exact ⟨none,0,0,rfl,by rw [natW_zero];rfl,Nat.le_refl _,by rw [List.drop_of_length_le (by rw [HN.out];exact Nat.le_refl _)];rfl,fun hn=>absurd (natW_zero 10) hn,Keeps.refl _⟩
 case round=>
  obtain ⟨la,lcap,v,rfl,rfl,hg,hv,hrow,hk⟩:=hrel
  have HV:=Lib.hid hv
  have HR:=Lib.hid hrow
  clear hv hrow
  by_cases hg0:gk=0
  ·subst hg0
   have q:¬ (0:Int) ≤ ((0:Nat):Int) - 1:=by omega
   go_wp2_with fail
   have hve:natW 10 (valW B64 ws).toNat=natW 10 v:=by rw [HV.out,List.drop_zero]
   rw [hve]
   go_ret
   exact ⟨la,lcap,rfl,HR.out,hk⟩
  ·obtain ⟨i,rfl⟩:∃ i,gk=i + 1:=⟨gk - 1,by omega⟩
   rw [show ((i + 1:Nat):Int) - 1=(i:Int) from by omega]
   have hi:i < N:=by omega
   have q0:(0:Int) ≤ (i:Int):=by omega
   obtain ⟨x,hx⟩:∃ x,ws[i]?=some x:=⟨_,List.getElem?_eq_getElem (by rw [← HN.out];exact hi)⟩
   obtain ⟨hx0,hx1⟩:=HRG.out i x hx
   have HX:=Lib.hid hx
   have HV2:Hid (v=upD ws i (64 - 64)):=Lib.hid (by rw [HV.out,Nat.sub_self,HZ.out])
   clear hx hg0
   go_wp2_with fail
   obtain ⟨wo,hwo⟩:∃ W,W=wr:=⟨_,rfl⟩
   rw [← hwo] at HR hk
   go_loopg [3,5,6] 64 (fun gk2 s3 s5 s6 wr2=>∃ (lb:Option Addr) (lcap2:Nat) (B:Int) (V:Nat),s5=.int .u64 B ∧ s3=.slice lb (natW 10 V).length lcap2 ∧ gk2 ≤ 64 ∧ V=upD ws i (64 - gk2) ∧ (gk2=0 → B=0) ∧ (0 < gk2 → B=((2 ^ (gk2 - 1):Nat):Int)) ∧ RowV w.heap.size wr2 lb (natW 10 V) ∧ Keeps w wr2)
   case atStart=>exact ⟨la,lcap,9223372036854775808,v,rfl,rfl,Nat.le_refl _,HV2.out,(fun e=>by cases e),(fun _=>rfl),by rw [← hwo];exact HR.out,by rw [← hwo];exact hk⟩
   case round=>
    obtain ⟨lb,lcap2,B,V,rfl,rfl,hg2,hVe,hB0,hB1,hrow2,hk2⟩:=hrel
    have HR2:=Lib.hid hrow2
    have HVE:=Lib.hid hVe
    clear hrow2 hwo hVe
    by_cases hz0:gk=0
    ·have hB:=hB0 hz0
     subst hB
     subst hz0
     have HVF:Hid (V=(valW B64 (ws.drop i)).toNat):=Lib.hid (by rw [HVE.out,Nat.sub_zero];exact HF.out i hi)
     clear hB0 hB1
     go_wp2_with fail
     go_roundg i
     case rel=>exact ⟨lb,lcap2,V,rfl,rfl,by omega,HVF.out,HR2.out,hk2⟩
     case measure=>omega
    ·obtain ⟨j,rfl⟩:∃ j,gk=j + 1:=⟨gk - 1,by omega⟩
     have hB:=hB1 (by omega)
     rw [show j + 1 - 1=j from rfl] at hB
     have hBp:0 < B:=by rw [hB];exact (pow_word (by omega)).1
     have hBl:B < 18446744073709551616:=by rw [hB];exact (pow_word (by omega)).2
     have hstep:upD ws i (64 - j)=2 * V + x.toNat / 2 ^ j % 2:=by
      rw [HVE.out]
      have e:=upD_step ws i (64 - (j + 1)) (by omega)
      rw [show 64 - (j + 1) + 1=64 - j by omega,show 63 - (64 - (j + 1))=j by omega,List.getD_eq_getElem?_getD,HX.out] at e
      exact e
     have hq:x / B % 2=((x.toNat / 2 ^ j % 2:Nat):Int):=by rw [hB];exact bit_word x hx0 j
     have hlen:(natW 10 V).length ≤ 100000:=by rw [HVE.out];exact HU.out i (64 - (j + 1)) hi (by omega)
     have hBn:(j=0 → B / 2=0) ∧ (0 < j → B / 2=((2 ^ (j - 1):Nat):Int)):=by
      refine ⟨fun e=>by rw [hB,e];rfl,fun e=>?_⟩
      obtain ⟨m,rfl⟩:∃ m,j=m + 1:=⟨j - 1,by omega⟩
      rw [hB,Nat.pow_succ,show m + 1 - 1=m from rfl]
      omega
     obtain ⟨hcx,b,off,rfl,hcell⟩:=(HI.out.keeps hk2) i x HX.out
     have hbl:=lt_of_cell hcell
     have HBN:=Lib.hid hBn
     have HST:=Lib.hid hstep
     have bit2:x.toNat / 2 ^ j % 2=0 ∨ x.toNat / 2 ^ j % 2=1:=by omega
     have hdiv0:0 ≤ x / B:=Int.ediv_nonneg hx0 (by omega)
     have hdiv1:x / B < 18446744073709551616:=by
      have:=Int.ediv_le_self B hx0
      omega
     have hBne:(B == 0)=false:=by simp;omega
     clear hB hstep hBn hB0 hB1 hz0
     rcases bit2 with hb | hb
     ·rw [hb] at hq
      have hq':(x / B % 2 == 1)=false:=by rw [hq];rfl
      have hD:∀ W,Keeps w W → RowV w.heap.size W lb (natW 10 V) → Calls Tryz.prog 86 #[.slice lb (natW 10 V).length lcap2,.int .i64 0] W fun e w'=>DigOut W e w' (natW 10 (upD ws i (64 - j))):=fun W hW hr=>by
       have q:=dbl_calls lb lcap2 V 0 W (Int.le_refl _) (by decide) hr.ints hlen
       rw [show 2 * V + (0:Int).toNat=upD ws i (64 - j) by rw [HST.out,hb];rfl] at q
       exact q
      have HD:=Lib.hid hD
      clear hD hb hq
      go_wp2_with (first | (go_at_call 86;refine (HD.out _ hk2 HR2.out).mono ?_;rintro e w5 ⟨a5,c5,rfl,hr5,hk5⟩) | fail)
      go_roundg j
      case rel=>exact ⟨a5,c5,B / 2,upD ws i (64 - j),rfl,rfl,by omega,rfl,HBN.out.1,HBN.out.2,fun hn=>by obtain ⟨g,q1,q2,q3⟩:=hr5 hn;exact ⟨g,q1,by have:=hk2.size;omega,q3⟩,hk2.trans hk5⟩
      case measure=>omega
     ·rw [hb] at hq
      have hq':(x / B % 2 == 1)=true:=by rw [hq];rfl
      have hD:∀ W,Keeps w W → RowV w.heap.size W lb (natW 10 V) → Calls Tryz.prog 86 #[.slice lb (natW 10 V).length lcap2,.int .i64 1] W fun e w'=>DigOut W e w' (natW 10 (upD ws i (64 - j))):=fun W hW hr=>by
       have q:=dbl_calls lb lcap2 V 1 W (by decide) (by decide) hr.ints hlen
       rw [show 2 * V + (1:Int).toNat=upD ws i (64 - j) by rw [HST.out,hb];rfl] at q
       exact q
      have HD:=Lib.hid hD
      clear hD hb hq
      go_wp2_with (first | (go_at_call 86;refine (HD.out _ hk2 HR2.out).mono ?_;rintro e w5 ⟨a5,c5,rfl,hr5,hk5⟩) | fail)
      go_roundg j
      case rel=>exact ⟨a5,c5,B / 2,upD ws i (64 - j),rfl,rfl,by omega,rfl,HBN.out.1,HBN.out.2,fun hn=>by obtain ⟨g,q1,q2,q3⟩:=hr5 hn;exact ⟨g,q1,by have:=hk2.size;omega,q3⟩,hk2.trans hk5⟩
      case measure=>omega

end Go.Proofs.YtpgcbmbnognieaaGreat
