/-
  ramageref01.Digits, Words, Less, Same, Is.
-/
import Derived.Test.YtpgcbmbnognieaaGreatPNatA
import Derived.BigRegion
namespace Go.Proofs.YtpgcbmbnognieaaGreat
set_option linter.unusedSimpArgs false
set_option linter.unusedVariables false
set_option maxHeartbeats 600000
open Go.RowKit

theorem digits_le {v k:Nat} (h:v < 10 ^ k):(natW 10 v).length ≤ k:=natW_len (by decide) h

theorem pow_dig (k:Nat):B64 ^ k ≤ 10 ^ (20 * k):=by
 rw [Nat.pow_mul]
 exact Nat.pow_le_pow_left (by decide) k

theorem digits_words {v k:Nat} (h:v < B64 ^ k):(natW 10 v).length ≤ 20 * k:=digits_le (Nat.lt_of_lt_of_le h (pow_dig k))

def upD (ws:List Int) (i:Nat) (j:Nat):Nat:=(valW B64 (ws.drop (i + 1))).toNat * 2 ^ j + ((ws.getD i 0).toNat / 2 ^ (64 - j))

theorem upD_lt {ws:List Int} (h:WordsOk B64 ws) (i j:Nat) (hi:i < ws.length) (hj:j ≤ 64):upD ws i j < B64 ^ ws.length:=by
 have h1:=valW_lt (h.drop (i + 1))
 have h0:=valW_nonneg (h.drop (i + 1))
 rw [List.length_drop] at h1
 obtain ⟨V,hV⟩:∃ V:Nat,valW B64 (ws.drop (i + 1))=(V:Int):=⟨_,(Int.toNat_of_nonneg h0).symm⟩
 have hx:=h (ws.getD i 0) (by rw [List.getD_eq_getElem?_getD,List.getElem?_eq_getElem hi];exact List.getElem_mem _)
 obtain ⟨x,hxe⟩:∃ x:Nat,ws.getD i 0=(x:Int):=⟨_,(Int.toNat_of_nonneg hx.1).symm⟩
 unfold upD
 rw [hV,hxe,Int.toNat_natCast,Int.toNat_natCast]
 rw [hV] at h1
 rw [hxe] at hx
 have h1':V < B64 ^ (ws.length - (i + 1)):=by
  have e:((B64 ^ (ws.length - (i + 1)):Nat):Int)=(B64:Int) ^ (ws.length - (i + 1)):=Int.natCast_pow _ _
  omega
 have hx2:x / 2 ^ (64 - j) < 2 ^ j:=by
  rw [Nat.div_lt_iff_lt_mul (Nat.two_pow_pos _),← Nat.pow_add,show j + (64 - j)=64 by omega]
  have:((B64:Nat):Int)=18446744073709551616:=rfl
  omega
 have h2:(V + 1) * 2 ^ j ≤ B64 ^ (ws.length - (i + 1)) * B64:=Nat.mul_le_mul h1' (by show 2 ^ j ≤ 2 ^ 64;exact Nat.pow_le_pow_right (by decide) hj)
 have e4:B64 ^ (ws.length - (i + 1) + 1)=B64 ^ (ws.length - (i + 1)) * B64:=Nat.pow_succ _ _
 rw [← e4,Nat.add_mul,Nat.one_mul] at h2
 have h3:B64 ^ (ws.length - (i + 1) + 1) ≤ B64 ^ ws.length:=Nat.pow_le_pow_right (by decide) (by omega)
 generalize V * 2 ^ j=P at *
 generalize 2 ^ j=Q at *
 generalize x / 2 ^ (64 - j)=T at *
 omega

theorem upD_zero (ws:List Int) (i:Nat) (h:WordsOk B64 ws):upD ws i 0=(valW B64 (ws.drop (i + 1))).toNat:=by
 unfold upD
 have:(ws.getD i 0).toNat / 2 ^ (64 - 0)=0:=by
  refine Nat.div_eq_of_lt ?_
  by_cases hi:i < ws.length
  ·have hx:=h (ws.getD i 0) (by rw [List.getD_eq_getElem?_getD,List.getElem?_eq_getElem hi];exact List.getElem_mem _)
   have:((B64:Nat):Int)=18446744073709551616:=rfl
   have e64:(2:Nat) ^ (64 - 0)=18446744073709551616:=rfl
   omega
  ·rw [List.getD_eq_getElem?_getD,List.getElem?_eq_none (by omega)]
   exact Nat.two_pow_pos _
 rw [this,Nat.pow_zero,Nat.mul_one,Nat.add_zero]

theorem upD_step (ws:List Int) (i j:Nat) (hj:j < 64):upD ws i (j + 1)=2 * upD ws i j + (ws.getD i 0).toNat / 2 ^ (63 - j) % 2:=by
 unfold upD
 rw [show 64 - (j + 1)=63 - j by omega,show 64 - j=(63 - j) + 1 by omega,Nat.pow_succ 2 (63 - j),Nat.pow_succ 2 j,← Nat.div_div_eq_div_mul]
 have:=Nat.div_add_mod ((ws.getD i 0).toNat / 2 ^ (63 - j)) 2
 rw [← Nat.mul_assoc]
 omega

theorem upD_full (ws:List Int) (i:Nat) (hi:i < ws.length) (h:WordsOk B64 ws):upD ws i 64=(valW B64 (ws.drop i)).toNat:=by
 obtain ⟨x,hx⟩:∃ x,ws[i]?=some x:=⟨_,List.getElem?_eq_getElem hi⟩
 have hxr:=h x (List.mem_of_getElem? hx)
 have h0:=valW_nonneg (h.drop (i + 1))
 unfold upD
 rw [drop_cons hx,List.getD_eq_getElem?_getD,hx]
 show (valW B64 (ws.drop (i + 1))).toNat * 2 ^ 64 + x.toNat / 2 ^ (64 - 64)=(x + B64 * valW B64 (ws.drop (i + 1))).toNat
 have eB:((B64:Nat):Int)=18446744073709551616:=rfl
 have e64:(2:Nat) ^ 64=18446744073709551616:=rfl
 rw [eB,e64,Nat.sub_self,Nat.pow_zero,Nat.div_one]
 omega

theorem pow_word {j:Nat} (h:j < 64):0 < ((2 ^ j:Nat):Int) ∧ ((2 ^ j:Nat):Int) < 18446744073709551616:=by
 have h1:2 ^ j < 2 ^ 64:=Nat.pow_lt_pow_right (by decide) h
 have h2:=Nat.two_pow_pos j
 have e64:(2:Nat) ^ 64=18446744073709551616:=rfl
 rw [e64] at h1
 generalize 2 ^ j=Q at *
 omega

theorem bit_word (x:Int) (h0:0 ≤ x) (k:Nat):x / (((2 ^ k:Nat):Int)) % 2=((x.toNat / 2 ^ k % 2:Nat):Int):=by
 obtain ⟨n,rfl⟩:=Int.eq_ofNat_of_zero_le h0
 rw [Int.toNat_natCast]
 push_cast
 rfl

set_option maxRecDepth 100000 in
set_option maxHeartbeats 800000 in
theorem digits_calls (a:Option Addr) (cap:Nat) (ws:List Int) (w:World) (h:WordsAt w a ws) (hl:ws.length ≤ 100) :
  Calls Tryz.prog 24 #[.slice a ws.length cap] w fun e w'=>DigOut w e w' (natW 10 (valW B64 ws).toNat):=by
 have hok:=words_ok h
 have hup:∀ i j,i < ws.length → j ≤ 64 → (natW 10 (upD ws i j)).length ≤ 100000:=fun i j hi hj=>by
  have:=digits_words (upD_lt hok i j hi hj)
  omega
 have hz:=fun i=>upD_zero ws i hok
 have hf:=fun i hi=>upD_full ws i hi hok
 have hrange:∀ (i:Nat) (x:Int),ws[i]?=some x → 0 ≤ x ∧ x < 18446744073709551616:=fun i x hx=>hok x (List.mem_of_getElem? hx)
 obtain ⟨N,hN⟩:∃ N,N=ws.length:=⟨_,rfl⟩
 rw [← hN] at hl ⊢
 rw [← hN] at hup hf
 have HN:=Lib.hid hN
 have HI:=Lib.hid h
 have HU:=Lib.hid hup
 have HZ:=Lib.hid hz
 have HF:=Lib.hid hf
 have HRG:=Lib.hid hrange
 clear h hN hup hz hf hrange hok
 go_enter Tryz.func24,Tryz.ntmps24
 go_wp2_with fail
 go_loopg [3,4,5,6] N (fun gk s3 s4 s5 s6 wr=>∃ (la:Option Addr) (lcap v:Nat),s4=.int .i64 ((gk:Int) - 1) ∧ s3=.slice la (natW 10 v).length lcap ∧ gk ≤ N ∧ v=(valW B64 (ws.drop gk)).toNat ∧ RowV w.heap.size wr la (natW 10 v) ∧ Keeps w wr)
 case atStart=>exact ⟨none,0,0,rfl,by rw [natW_zero];rfl,Nat.le_refl _,by rw [List.drop_of_length_le (by rw [HN.out];exact Nat.le_refl _)];rfl,fun hn=>absurd (natW_zero 10) hn,Keeps.refl _⟩
 case round=>
  obtain ⟨la,lcap,v,rfl,rfl,hg,hv,hrow,hk⟩:=hrel
  have HV:=Lib.hid hv
  have HR:=Lib.hid hrow
  clear hv hrow
  by_cases hg0:gk=0
  ·subst hg0
   have q:¬ (0:Int) ≤ ((0:Nat):Int) - 1:=by omega
   go_wp2_with fail
   have hve:natW 10 (valW B64 ws).toNat=natW 10 v:=by rw [HV.out,List.drop_zero]
   rw [hve]
   go_ret
   exact ⟨la,lcap,rfl,HR.out,hk⟩
  ·obtain ⟨i,rfl⟩:∃ i,gk=i + 1:=⟨gk - 1,by omega⟩
   rw [show ((i + 1:Nat):Int) - 1=(i:Int) from by omega]
   have hi:i < N:=by omega
   have q0:(0:Int) ≤ (i:Int):=by omega
   obtain ⟨x,hx⟩:∃ x,ws[i]?=some x:=⟨_,List.getElem?_eq_getElem (by rw [← HN.out];exact hi)⟩
   obtain ⟨hx0,hx1⟩:=HRG.out i x hx
   have HX:=Lib.hid hx
   have HV2:Hid (v=upD ws i (64 - 64)):=Lib.hid (by rw [HV.out,Nat.sub_self,HZ.out])
   clear hx hg0
   go_wp2_with fail
   obtain ⟨wo,hwo⟩:∃ W,W=wr:=⟨_,rfl⟩
   rw [← hwo] at HR hk
   go_loopg [3,5,6] 64 (fun gk2 s3 s5 s6 wr2=>∃ (lb:Option Addr) (lcap2:Nat) (B:Int) (V:Nat),s5=.int .u64 B ∧ s3=.slice lb (natW 10 V).length lcap2 ∧ gk2 ≤ 64 ∧ V=upD ws i (64 - gk2) ∧ (gk2=0 → B=0) ∧ (0 < gk2 → B=((2 ^ (gk2 - 1):Nat):Int)) ∧ RowV w.heap.size wr2 lb (natW 10 V) ∧ Keeps w wr2)
   case atStart=>exact ⟨la,lcap,9223372036854775808,v,rfl,rfl,Nat.le_refl _,HV2.out,(fun e=>by cases e),(fun _=>rfl),by rw [← hwo];exact HR.out,by rw [← hwo];exact hk⟩
   case round=>
    obtain ⟨lb,lcap2,B,V,rfl,rfl,hg2,hVe,hB0,hB1,hrow2,hk2⟩:=hrel
    have HR2:=Lib.hid hrow2
    have HVE:=Lib.hid hVe
    clear hrow2 hwo hVe
    by_cases hz0:gk=0
    ·have hB:=hB0 hz0
     subst hB
     subst hz0
     have HVF:Hid (V=(valW B64 (ws.drop i)).toNat):=Lib.hid (by rw [HVE.out,Nat.sub_zero];exact HF.out i hi)
     clear hB0 hB1
     go_wp2_with fail
     go_roundg i
     case rel=>exact ⟨lb,lcap2,V,rfl,rfl,by omega,HVF.out,HR2.out,hk2⟩
     case measure=>omega
    ·obtain ⟨j,rfl⟩:∃ j,gk=j + 1:=⟨gk - 1,by omega⟩
     have hB:=hB1 (by omega)
     rw [show j + 1 - 1=j from rfl] at hB
     have hBp:0 < B:=by rw [hB];exact (pow_word (by omega)).1
     have hBl:B < 18446744073709551616:=by rw [hB];exact (pow_word (by omega)).2
     have hstep:upD ws i (64 - j)=2 * V + x.toNat / 2 ^ j % 2:=by
      rw [HVE.out]
      have e:=upD_step ws i (64 - (j + 1)) (by omega)
      rw [show 64 - (j + 1) + 1=64 - j by omega,show 63 - (64 - (j + 1))=j by omega,List.getD_eq_getElem?_getD,HX.out] at e
      exact e
     have hq:x / B % 2=((x.toNat / 2 ^ j % 2:Nat):Int):=by rw [hB];exact bit_word x hx0 j
     have hlen:(natW 10 V).length ≤ 100000:=by rw [HVE.out];exact HU.out i (64 - (j + 1)) hi (by omega)
     have hBn:(j=0 → B / 2=0) ∧ (0 < j → B / 2=((2 ^ (j - 1):Nat):Int)):=by
      refine ⟨fun e=>by rw [hB,e];rfl,fun e=>?_⟩
      obtain ⟨m,rfl⟩:∃ m,j=m + 1:=⟨j - 1,by omega⟩
      rw [hB,Nat.pow_succ,show m + 1 - 1=m from rfl]
      omega
     obtain ⟨hcx,b,off,rfl,hcell⟩:=(HI.out.keeps hk2) i x HX.out
     have hbl:=lt_of_cell hcell
     have HBN:=Lib.hid hBn
     have HST:=Lib.hid hstep
     have bit2:x.toNat / 2 ^ j % 2=0 ∨ x.toNat / 2 ^ j % 2=1:=by omega
     have hdiv0:0 ≤ x / B:=Int.ediv_nonneg hx0 (by omega)
     have hdiv1:x / B < 18446744073709551616:=by
      have:=Int.ediv_le_self B hx0
      omega
     have hBne:(B == 0)=false:=by simp;omega
     clear hB hstep hBn hB0 hB1 hz0
     rcases bit2 with hb | hb
     ·rw [hb] at hq
      have hq':(x / B % 2 == 1)=false:=by rw [hq];rfl
      have hD:∀ W,Keeps w W → RowV w.heap.size W lb (natW 10 V) → Calls Tryz.prog 86 #[.slice lb (natW 10 V).length lcap2,.int .i64 0] W fun e w'=>DigOut W e w' (natW 10 (upD ws i (64 - j))):=fun W hW hr=>by
       have q:=dbl_calls lb lcap2 V 0 W (Int.le_refl _) (by decide) hr.ints hlen
       rw [show 2 * V + (0:Int).toNat=upD ws i (64 - j) by rw [HST.out,hb];rfl] at q
       exact q
      have HD:=Lib.hid hD
      clear hD hb hq
      go_wp2_with (first | (go_at_call 86;refine (HD.out _ hk2 HR2.out).mono ?_;rintro e w5 ⟨a5,c5,rfl,hr5,hk5⟩) | fail)
      go_roundg j
      case rel=>exact ⟨a5,c5,B / 2,upD ws i (64 - j),rfl,rfl,by omega,rfl,HBN.out.1,HBN.out.2,fun hn=>by obtain ⟨g,q1,q2,q3⟩:=hr5 hn;exact ⟨g,q1,by have:=hk2.size;omega,q3⟩,hk2.trans hk5⟩
      case measure=>omega
     ·rw [hb] at hq
      have hq':(x / B % 2 == 1)=true:=by rw [hq];rfl
      have hD:∀ W,Keeps w W → RowV w.heap.size W lb (natW 10 V) → Calls Tryz.prog 86 #[.slice lb (natW 10 V).length lcap2,.int .i64 1] W fun e w'=>DigOut W e w' (natW 10 (upD ws i (64 - j))):=fun W hW hr=>by
       have q:=dbl_calls lb lcap2 V 1 W (by decide) (by decide) hr.ints hlen
       rw [show 2 * V + (1:Int).toNat=upD ws i (64 - j) by rw [HST.out,hb];rfl] at q
       exact q
      have HD:=Lib.hid hD
      clear hD hb hq
      go_wp2_with (first | (go_at_call 86;refine (HD.out _ hk2 HR2.out).mono ?_;rintro e w5 ⟨a5,c5,rfl,hr5,hk5⟩) | fail)
      go_roundg j
      case rel=>exact ⟨a5,c5,B / 2,upD ws i (64 - j),rfl,rfl,by omega,rfl,HBN.out.1,HBN.out.2,fun hn=>by obtain ⟨g,q1,q2,q3⟩:=hr5 hn;exact ⟨g,q1,by have:=hk2.size;omega,q3⟩,hk2.trans hk5⟩
      case measure=>omega

theorem int_at {w:World} {a:Option Addr} {ds:List Int} (h:IntsAt w a ds) (i:Nat) (hi:i < ds.length):∃ x b off,ds[i]?=some x ∧ a=some ⟨b,off,none⟩ ∧ w.cell? ⟨b,off + i,none⟩=some (.int .i64 x):=by
 obtain ⟨x,hx⟩:∃ x,ds[i]?=some x:=⟨_,List.getElem?_eq_getElem hi⟩
 obtain ⟨b,off,ha,hc⟩:=h i x hx
 exact ⟨x,b,off,hx,ha,hc⟩

theorem rowI_zero {w:World} {blk n:Nat} (h:w.ownsRow blk 3 1 (.slice (some ⟨blk,0,none⟩) n n) n (madeCells (Value.int .i64 0).cells (n * 1)).toList):RowI w blk (List.replicate n 0):=by
 have e:(madeCells (Value.int .i64 0).cells (n * 1)).toList=(List.replicate n (0:Int)).map (Value.int .i64):=by
  rw [List.map_replicate,Nat.mul_one]
  simp [madeCells,Value.cells,Nat.mod_one]
  rw [List.map_const',List.length_range]
 rw [e] at h
 exact (rowI_owns h).1

theorem Keeps.frz {w w':World} (h:Keeps w w') {a:Addr} (hl:a.block < w.heap.size) (hc:w.frozen? a=false):w'.frozen? a=false:=(Below.frozen h hl).trans hc

theorem eql_same (x y:Edge) (h:x=y) (W:World):(binOp .eql 25 (.agg #[.int .u8 x.tag,.int .u32 x.to]) (.agg #[.int .u8 y.tag,.int .u32 y.to])).run Tryz.prog W=.ok (.bool true) W:=by rw [run_eql_edge];simp [h]

theorem eql_other (x y:Edge) (h:x ≠ y) (W:World):(binOp .eql 25 (.agg #[.int .u8 x.tag,.int .u32 x.to]) (.agg #[.int .u8 y.tag,.int .u32 y.to])).run Tryz.prog W=.ok (.bool false) W:=by rw [run_eql_edge];simp [h]

def InvOf (ps qs:List Int):Prop:=qs.length=ps.length ∧ ∀ (i:Nat) (x:Int),ps[i]?=some x → qs[x.toNat]?=some (i:Int)

theorem rowI_made {w:World} {blk n:Nat} (h:w.ownsRow blk 3 1 (.slice (some ⟨blk,0,none⟩) n n) n (madeCells (Value.int .i64 0).cells (n * 1)).toList):RowI w blk (List.replicate n 0):=by
 have e:(madeCells (Value.int .i64 0).cells (n * 1)).toList=(List.replicate n (0:Int)).map (Value.int .i64):=by
  rw [List.map_replicate,Nat.mul_one]
  simp [madeCells,Value.cells,Nat.mod_one]
  rw [List.map_const',List.length_range]
 rw [e] at h
 exact (rowI_owns h).1

set_option maxRecDepth 100000 in
set_option maxHeartbeats 1000000 in
theorem inverse_calls (a:Option Addr) (cap:Nat) (ps:List Int) (w:World) (h:IntsAt w a ps) (hl:ps.length ≤ 1048576) :
  Calls Tryz.prog 114 #[.slice a ps.length cap] w fun e w'=>Keeps w w' ∧
   if permB ps=true then ∃ qs,e=.returned (.tuple #[.slice (some ⟨w.heap.size,0,none⟩) ps.length ps.length,.bool true]) ∧ RowI w' w.heap.size qs ∧ InvOf ps qs
   else e=.returned (.tuple #[.slice none 0 0,.bool false]):=by
 have hR:=fun W (hW:Keeps w W)=>permRight_calls a cap ps W (h.keeps hW) hl
 obtain ⟨N,hN⟩:∃ N,N=ps.length:=⟨_,rfl⟩
 cases hb:permB ps with
 | false=>
  simp only [Bool.false_eq_true,if_false]
  rw [hb,← hN] at hR
  rw [← hN]
  have HR:=Lib.hid hR
  clear hR h hl hb hN
  go_enter Tryz.func114,Tryz.ntmps114
  go_wp2_with (first | (go_at_call 176;refine (HR.out _ (by (exact kp))).mono ?_;rintro e w1 ⟨rfl,rfl⟩) | fail)
  go_ret2
  exact ⟨Keeps.refl _,rfl⟩
 | true=>
  simp only [if_true]
  obtain ⟨h16,hrng,hnd⟩:=permB_iff.1 hb
  rw [hb,← hN] at hR
  rw [← hN] at hl h16 hrng ⊢
  have HR:=Lib.hid hR
  have HN:=Lib.hid hN
  have H:=Lib.hid h
  have HRNG:=Lib.hid hrng
  have HND:=Lib.hid hnd
  obtain ⟨j0,hj,jz0,jz1,jz2⟩:=info_parts info_int
  clear hR h hb hN hrng hnd
  go_enter Tryz.func114,Tryz.ntmps114
  go_wp2_with (first
   | (go_at_call 176;refine (HR.out _ (by (exact kp))).mono ?_;rintro e w1 ⟨rfl,rfl⟩)
   | (at_make;refine wpList_make_full _ rfl _ _ 38 rfl w.heap.size 3 j0 (.int .i64 0) 1 Tryz.underlying38 hj jz0 jz1 .i64 .i64 (N:Int) (N:Int) N rfl rfl rfl rfl (by rw [jz2];omega) (by unfold maxLen;omega) (by simp) ?_;intro w1 hown1 hg1)
   | fail)
  have HB1:=Lib.hid (rowI_made hown1)
  have hkk:Keeps w w1:=⟨hg1.os,hg1.tape,hg1.output,hg1.size,fun i hi=>hg1.block i hi (by simp)⟩
  have HKK:=Lib.hid hkk
  have l1:=HB1.out.lt
  clear hown1 hg1 hkk
  go_loopg [5,6,15] N (fun gk s5 s6 s15 wr=>∃ (d:Nat) (qs:List Int),d + gk=N ∧ s15=.int .i64 (d:Int) ∧ qs.length=N ∧ RowI wr w.heap.size qs ∧ (∀ i x,i < d → ps[i]?=some x → qs[x.toNat]?=some (i:Int)) ∧ Upd (fun j=>j=w.heap.size) w1 wr)
  case atStart=>exact ⟨0,_,by omega,rfl,by simp,HB1.out,fun i x hi=>by omega,Upd.refl _ _⟩
  case round=>
   obtain ⟨d,qs,hd,rfl,hql,hB,hag,hk0⟩:=hrel
   have HB:=Lib.hid hB
   have HQL:=Lib.hid hql
   have HAG:=Lib.hid hag
   have HK0:=Lib.hid hk0
   have hw:Keeps w wr:=HKK.out.new hk0 (fun k hk=>by omega)
   clear hB hql hag hk0
   by_cases hlt:d < N
   ·obtain ⟨x,hx⟩:∃ b,ps[d]?=some b:=⟨_,List.getElem?_eq_getElem (by rw [← HN.out];exact hlt)⟩
    obtain ⟨b,off,rfl,hc0⟩:=H.out d x hx
    have hc:=hw.cell hc0
    obtain ⟨hx0,hx1⟩:=HRNG.out x (List.mem_of_getElem? hx)
    have HX:=Lib.hid hx
    obtain ⟨X,rfl⟩:∃ X:Nat,x=(X:Int):=⟨x.toNat,by omega⟩
    obtain ⟨y,hy⟩:∃ b,qs[X]?=some b:=⟨_,List.getElem?_eq_getElem (by rw [HQL.out];omega)⟩
    have hcy:=HB.out.cell hy
    have hfy:=HB.out.frozen X
    clear hc0 hx hy
    go_wp2_with fail
    go_roundg (gk - 1)
    case rel=>
     refine ⟨d + 1,qs.set X (d:Int),by omega,by simp,by rw [List.length_set,HQL.out],?_,fun i z hi hz=>?_,?_⟩
     ·exact HB.out.set X (d:Int) (by rw [HQL.out];omega)
     ·by_cases hid:i=d
      ·subst hid
       rw [HX.out] at hz
       cases hz
       rw [Int.toNat_natCast,List.getElem?_set_self (by rw [HQL.out];omega)]
      ·have hne:z.toNat ≠ X:=fun e=>by
        have hz0:=(HRNG.out z (List.mem_of_getElem? hz)).1
        have hzX:z=(X:Int):=by omega
        rw [hzX] at hz
        obtain ⟨l1,e1⟩:=List.getElem?_eq_some_iff.1 hz
        obtain ⟨l2,e2⟩:=List.getElem?_eq_some_iff.1 HX.out
        exact hid (List.getElem_inj HND.out |>.1 (e1.trans e2.symm))
       rw [List.getElem?_set_ne (fun e=>hne e.symm)]
       exact HAG.out i z (by omega) hz
     ·exact HK0.out.setCell (.inl rfl) _
    case measure=>omega
   ·have hd2:d=N:=by omega
    have hq:InvOf ps qs:=⟨by rw [HQL.out,HN.out],fun i x hx=>HAG.out i x (by have:=(List.getElem?_eq_some_iff.1 hx).1;have:=HN.out;omega) hx⟩
    have HQ:=Lib.hid hq
    clear hd2 hq
    go_wp2_with fail
    go_ret2
    exact ⟨hw,qs,rfl,HB.out,HQ.out⟩

structure OrdRep (F:Nat → Prop) (w:World) (ob:Nat) (ps:List Int):Prop where
 lies:∃ va vc lg lc qs,w.heap[ob]?=some (.cells #[.slice va ps.length vc,.slice (some ⟨lg,0,none⟩) ps.length lc] 175 (0,0)) ∧ InvOf ps qs ∧
  (ps ≠ [] → ∃ vg,va=some ⟨vg,0,none⟩ ∧ RowI w vg ps ∧ F vg ∧ vg ≠ lg) ∧ RowI w lg qs ∧ F lg
 own:F ob
 lt:∀ k,F k → k < w.heap.size
 perm:permB ps=true

theorem OrdRep.keep {F G:Nat → Prop} {w W:World} {ob:Nat} {ps:List Int} (h:OrdRep F w ob ps) (hu:Upd G w W) (hd:∀ k,F k → ¬ G k):OrdRep F W ob ps:=by
 obtain ⟨⟨va,vc,lg,lc,qs,h1,h2,h3,h4,h5⟩,a1,a2,a3⟩:=h
 refine ⟨⟨va,vc,lg,lc,qs,(hu.block ob (lt_of_heap h1) (hd _ a1)).trans h1,h2,fun hn=>?_,h4.keep hu (hd _ h5),h5⟩,a1,fun k hk=>Nat.lt_of_lt_of_le (a2 k hk) hu.size,a3⟩
 obtain ⟨vg,q1,q2,q3,q4⟩:=h3 hn
 exact ⟨vg,q1,q2.keep hu (hd _ q3),q3,q4⟩

theorem OrdRep.keeps {F:Nat → Prop} {w W:World} {ob:Nat} {ps:List Int} (h:OrdRep F w ob ps) (hu:Keeps w W):OrdRep F W ob ps:=h.keep (hu.upd (fun _=>False)) (fun _ _ h=>h)

set_option maxRecDepth 100000 in
theorem orderOf_calls (a:Option Addr) (cap:Nat) (ps:List Int) (w:World) (h:IntsAt w a ps) (hl:ps.length ≤ 1048576) :
  Calls Tryz.prog 55 #[.slice a ps.length cap] w fun e w'=>Keeps w w' ∧
   if permB ps=true then ∃ ob F,e=.returned (.tuple #[.pointer (some ⟨ob,0,none⟩),.int .u8 0]) ∧ OrdRep F w' ob ps ∧ (∀ k,F k → w.heap.size ≤ k)
   else e=.returned (.tuple #[.pointer none,.int .u8 1]):=by
 have hI:=fun W (hW:Keeps w W)=>inverse_calls a cap ps W (h.keeps hW) hl
 have hC:=fun W (hW:Keeps w W)=>clone_calls a cap ps W (h.keeps hW) hl
 obtain ⟨N,hN⟩:∃ N,N=ps.length:=⟨_,rfl⟩
 cases hb:permB ps with
 | false=>
  simp only [Bool.false_eq_true,if_false]
  simp only [hb,Bool.false_eq_true,if_false,← hN] at hI
  rw [← hN]
  have HI:=Lib.hid hI
  clear hI h hl hb hN hC
  go_enter Tryz.func55,Tryz.ntmps55
  go_wp2_with (first | (go_at_call 114;refine (HI.out _ (by (exact kp))).mono ?_;rintro e w1 ⟨hk,rfl⟩) | fail)
  go_ret2
  exact ⟨hk,rfl⟩
 | true=>
  simp only [if_true]
  simp only [hb,if_true,← hN] at hI
  rw [← hN] at hC ⊢
  have HI:=Lib.hid hI
  have HC:=Lib.hid hC
  have HB:=Lib.hid hb
  have HN:=Lib.hid hN
  clear hI h hl hb hN hC
  go_enter Tryz.func55,Tryz.ntmps55
  go_wp2_with (first | (go_at_call 114;refine (HI.out _ (by (exact kp))).mono ?_;rintro e w1 ⟨hk1,qs,rfl,hr1,hq1⟩) | fail)
  have l1:=hr1.lt
  refine (HC.out _ hk1).mono ?_
  rintro e w2 ⟨va,vc,rfl,hr2,hk2⟩
  go_wp2_with fail
  go_ret2
  have hk3:Keeps w2 (w2.alloc (.cells #[.slice va N vc,.slice (some ⟨w.heap.size,0,none⟩) N N] 175)):=(Keeps.refl _).alloc _
  have l2:=hk2.size
  refine ⟨(hk1.trans hk2).trans hk3,w2.heap.size,fun k=>w.heap.size ≤ k ∧ k ≤ w2.heap.size,rfl,⟨⟨va,vc,w.heap.size,N,qs,?_,hq1,fun hn=>?_,(hr1.keeps hk2).keeps hk3,by omega⟩,by omega,fun k hk=>by simp;omega,HB.out⟩,fun k hk=>hk.1⟩
  ·rw [← HN.out]
   exact heap_alloc_new w2 _
  ·obtain ⟨vg,e1,e2,e3⟩:=hr2 hn
   have:=e3.lt
   exact ⟨vg,e1,e3.keeps hk3,by omega,by omega⟩

theorem OrdRep.cells {F:Nat → Prop} {w:World} {ob:Nat} {ps:List Int} (h:OrdRep F w ob ps):∃ va vc lg lc,w.cell? ⟨ob,0,none⟩=some (.slice va ps.length vc) ∧ w.cell? ⟨ob,1,none⟩=some (.slice (some ⟨lg,0,none⟩) ps.length lc) ∧ IntsAt w va ps:=by
 obtain ⟨⟨va,vc,lg,lc,qs,h1,h2,h3,h4,h5⟩,_⟩:=h
 refine ⟨va,vc,lg,lc,by rw [cell_of_row w ob 0 _ _ _ h1];rfl,by rw [cell_of_row w ob 1 _ _ _ h1];rfl,fun i x hx=>?_⟩
 obtain ⟨vg,q1,q2,_⟩:=h3 (fun e=>by rw [e] at hx;simp at hx)
 rw [q1]
 exact q2.ints i x hx

theorem OrdRep.le {F:Nat → Prop} {w:World} {ob:Nat} {ps:List Int} (h:OrdRep F w ob ps):ps.length ≤ 16:=(permB_iff.1 h.perm).1

theorem ordVars_calls {F:Nat → Prop} {w:World} {ob:Nat} {ps:List Int} (h:OrdRep F w ob ps) :
  Calls Tryz.prog 125 #[.pointer (some ⟨ob,0,none⟩)] w fun e w'=>e=.returned (.int .i64 (ps.length:Int)) ∧ w=w':=by
 obtain ⟨va,vc,lg,lc,c0,c1,_⟩:=h.cells
 have hle:=h.le
 obtain ⟨n,hn⟩:∃ n,n=ps.length:=⟨_,rfl⟩
 rw [← hn] at c0 c1 hle ⊢
 clear h c1 hn
 go_enter Tryz.func125,Tryz.ntmps125
 go_wp2
 go_ret
 exact ⟨rfl,rfl⟩

def numsI (n:Nat):List Int:=(List.range n).map (fun i:Nat=>(i:Int))

theorem numsI_len (n:Nat):(numsI n).length=n:=by unfold numsI;simp

theorem mem_numsI {n:Nat} {x:Int}:x ∈ numsI n ↔ 0 ≤ x ∧ x < (n:Int):=by
 unfold numsI
 rw [List.mem_map]
 constructor
 ·rintro ⟨a,ha,rfl⟩
  rw [List.mem_range] at ha
  omega
 ·intro h
  exact ⟨x.toNat,by rw [List.mem_range];omega,by omega⟩

theorem nodup_numsI (n:Nat):(numsI n).Nodup:=by
 unfold numsI
 exact List.Pairwise.map _ (fun a b (h:a ≠ b) e=>h (by omega)) List.nodup_range

theorem permB_numsI {n:Nat} (h:n ≤ 16):permB (numsI n)=true:=permB_iff.2 ⟨by rw [numsI_len];exact h,fun x hx=>by rw [numsI_len];exact mem_numsI.1 hx,nodup_numsI n⟩

set_option maxRecDepth 100000 in
theorem permSame_calls (n:Nat) (h:n ≤ 16) (w:World) :
  Calls Tryz.prog 124 #[.int .i64 (n:Int)] w fun e w'=>e=.returned (.tuple #[.slice (some ⟨w.heap.size,0,none⟩) n n,.bool true]) ∧ RowI w' w.heap.size (numsI n) ∧ Keeps w w':=by
 obtain ⟨j0,hj,jz0,jz1,jz2⟩:=info_parts info_int
 go_enter Tryz.func124,Tryz.ntmps124
 go_wp2_with (first
  | (at_make;refine wpList_make_full _ rfl _ _ 38 rfl w.heap.size 3 j0 (.int .i64 0) 1 Tryz.underlying38 hj jz0 jz1 .i64 .i64 (n:Int) (n:Int) n rfl rfl rfl rfl (by rw [jz2];omega) (by unfold maxLen;omega) (by simp) ?_;intro w1 hown1 hg1)
  | fail)
 have HB1:=Lib.hid (rowI_made hown1)
 have hkk:Keeps w w1:=⟨hg1.os,hg1.tape,hg1.output,hg1.size,fun i hi=>hg1.block i hi (by simp)⟩
 have HKK:=Lib.hid hkk
 clear hown1 hg1 hkk
 go_loopg [5,16] n (fun gk s5 s16 wr=>∃ (d:Nat) (vs:List Int),d + gk=n ∧ s16=.int .i64 (d:Int) ∧ vs.length=n ∧ (∀ (j:Nat) (x:Int),j < d → vs[j]?=some x → x=(j:Int)) ∧ RowI wr w.heap.size vs ∧ Upd (fun k=>k=w.heap.size) w1 wr)
 case atStart=>exact ⟨0,_,by omega,rfl,by simp,fun j x hj=>by omega,HB1.out,Upd.refl _ _⟩
 case round=>
  obtain ⟨d,vs,hd,rfl,hvl,hvs,hR,hu⟩:=hrel
  have HR:=Lib.hid hR
  have HU:=Lib.hid hu
  have HVL:=Lib.hid hvl
  have HVS:=Lib.hid hvs
  clear hR hu hvl hvs
  by_cases hlt:d < n
  ·obtain ⟨y,hy⟩:∃ b,vs[d]?=some b:=⟨_,List.getElem?_eq_getElem (by rw [HVL.out];exact hlt)⟩
   have hcy:=HR.out.cell hy
   have hfy:=HR.out.frozen d
   clear hy
   go_wp2_with fail
   go_roundg (gk - 1)
   case rel=>
    refine ⟨d + 1,vs.set d (d:Int),by omega,by simp,by rw [List.length_set,HVL.out],fun j x hj hx=>?_,HR.out.set d _ (by rw [HVL.out];exact hlt),HU.out.setCell (p:=⟨w.heap.size,d,none⟩) (.inl rfl) _⟩
    by_cases e:j=d
    ·subst e
     rw [List.getElem?_set_self (by rw [HVL.out];exact hlt)] at hx
     exact (Option.some.inj hx).symm
    ·rw [List.getElem?_set_ne (fun h=>e h.symm)] at hx
     exact HVS.out j x (by omega) hx
   case measure=>omega
  ·have hfin:vs=numsI n:=by
    apply List.ext_getElem?
    intro j
    by_cases hj:j < n
    ·obtain ⟨y,hy⟩:∃ b,vs[j]?=some b:=⟨_,List.getElem?_eq_getElem (by rw [HVL.out];exact hj)⟩
     have:=HVS.out j y (by omega) hy
     rw [hy,this]
     unfold numsI
     rw [List.getElem?_map,List.getElem?_range hj]
     rfl
    ·rw [List.getElem?_eq_none (by rw [HVL.out];omega),List.getElem?_eq_none (by rw [numsI_len];omega)]
   have hkw:=HKK.out.new HU.out (fun k hk=>by omega)
   have hRf:=HR.out
   rw [hfin] at hRf
   have HRF:=Lib.hid hRf
   have HKW:=Lib.hid hkw
   clear hRf hkw hfin
   go_wp2_with fail
   go_ret2
   exact ⟨rfl,HRF.out,HKW.out⟩

set_option maxRecDepth 100000 in
theorem orderNew_calls (n:Nat) (h:n ≤ 16) (w:World) :
  Calls Tryz.prog 61 #[.int .i64 (n:Int)] w fun e w'=>Keeps w w' ∧ ∃ ob Fo,e=.returned (.tuple #[.pointer (some ⟨ob,0,none⟩),.int .u8 0]) ∧ OrdRep Fo w' ob (numsI n) ∧ ∀ k,Fo k → w.heap.size ≤ k:=by
 have HS:=Lib.hid (fun (W:World)=>permSame_calls n h W)
 have hof:=fun (W W':World) (hr:RowI W' W.heap.size (numsI n))=>by
  have:=orderOf_calls (some ⟨W.heap.size,0,none⟩) n (numsI n) W' hr.ints (by rw [numsI_len];omega)
  simp only [numsI_len,permB_numsI h,if_true] at this
  exact this
 have HOF:=Lib.hid hof
 clear hof
 go_enter Tryz.func61,Tryz.ntmps61
 go_wp2_with fail
 refine (HS.out _).mono ?_
 rintro e w1 ⟨rfl,hr,hk1⟩
 have HO1:=Lib.hid (HOF.out _ _ hr)
 clear hr
 go_wp2_with fail
 refine HO1.out.mono ?_
 rintro e w2 ⟨hk2,ob,Fo,rfl,hO,hF⟩
 have HO:=Lib.hid hO
 clear hO
 go_wp2_with fail
 go_ret2
 exact ⟨hk1.trans hk2,ob,Fo,rfl,HO.out,fun k hk=>by have:=hF k hk;have:=hk1.size;omega⟩

end Go.Proofs.YtpgcbmbnognieaaGreat
