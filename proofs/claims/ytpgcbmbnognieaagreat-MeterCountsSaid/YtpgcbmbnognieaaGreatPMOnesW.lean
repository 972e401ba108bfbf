/-
  ramageref05.Members, Vars; ramageref21.Count, Ones; meter.Ones.
-/
import Derived.Test.YtpgcbmbnognieaaGreatPMCount
import Derived.Test.YtpgcbmbnognieaaGreatPNatV
namespace Go.Proofs.YtpgcbmbnognieaaGreat
set_option linter.unusedSimpArgs false
set_option linter.unusedVariables false
set_option maxHeartbeats 600000
open Go.RowKit

set_option maxRecDepth 100000 in
theorem members_calls (B cap:Nat) (ts:List Bool) (w:World) (hB:BoolsAt w B ts) (hl:ts.length ≤ 65536) :
  Calls Tryz.prog 87 #[.slice (some ⟨B,0,none⟩) ts.length cap] w fun e w'=>(∃ a c,e=.returned (.slice a (cntL ts ts.length) c)) ∧ Keeps w w':=by
 obtain ⟨i0,hi,hz0,hz1,hz2⟩:=info_parts info_int
 obtain ⟨N,hN⟩:∃ N,N=ts.length:=⟨_,rfl⟩
 have hle:=fun y=>cntL_le ts y
 rw [← hN] at hl ⊢
 have HN:=Lib.hid hN
 have HB:=Lib.hid hB
 have HLE:=Lib.hid hle
 clear hN hB hle
 go_enter Tryz.func87,Tryz.ntmps87
 go_wp2_with fail
 go_loopg [3,4] N (fun gk s3 s4 wr=>∃ (y c:Nat) (v:Value) (xs:List Value),s4=.int .i64 (y:Int) ∧ s3=v ∧ y + gk=N ∧ c=cntL ts y ∧ wr.ownsRow w.heap.size 3 1 v c xs ∧ Keeps w wr)
 case atStart=>exact ⟨0,0,_,[],rfl,rfl,by omega,rfl,World.ownsRow_nil _ _ _ _,by (exact kp)⟩
 case round=>
  obtain ⟨y,c,v,xs,rfl,rfl,hyg,hc,ho,hk⟩:=hrel
  obtain ⟨la,lcap,rfl,-⟩:=owns_slice ho
  have HO:=Lib.hid ho
  have HC:=Lib.hid hc
  have HYG:=Lib.hid hyg
  have hcl:c ≤ y:=by rw [hc];exact HLE.out y
  clear ho hc
  by_cases hy:y < N
  ·have hgk:1 ≤ gk:=by omega
   obtain ⟨b,hb⟩:∃ b,ts[y]?=some b:=⟨_,List.getElem?_eq_getElem (by rw [← HN.out];exact hy)⟩
   have cb:=(HB.out.keep (Keeps.upd hk (fun _=>False)) (fun h=>h)).cell hb
   have hbl:=lt_of_cell cb
   have q0:(y:Int) < (N:Int):=by omega
   have HBY:=Lib.hid hb
   clear hb hyg
   cases b with
   | false=>
    have hnext:c=cntL ts (y + 1):=by
     show c=cntL ts y + (if ts[y]?=some true then 1 else 0)
     rw [HBY.out,if_neg (by simp),← HC.out,Nat.add_zero]
    have HNX:=Lib.hid hnext
    clear hnext
    go_wp2_with fail
    go_roundg (gk - 1)
    case rel=>exact ⟨y + 1,c,_,xs,congrArg (Value.int .i64) (by omega),rfl,by have:=HYG.out;omega,HNX.out,HO.out,hk⟩
    case measure=>omega
   | true=>
    have hnext:c + 1=cntL ts (y + 1):=by
     show c + 1=cntL ts y + (if ts[y]?=some true then 1 else 0)
     rw [HBY.out,if_pos rfl,← HC.out]
    have HNX:=Lib.hid hnext
    have q1:c + 1 ≤ maxLen:=by unfold maxLen;omega
    have q2:(c + 1) * 8 ≤ 140737488355328:=by omega
    clear hnext
    go_wp2_with (first
     | (at_builtin;refine wpList_append_own _ rfl _ _ 38 rfl w.heap.size 3 i0 (.int .i64 0) 1 8 Tryz.underlying38 hi hz0 hz1 hz2 rfl (by decide) (.slice la c lcap) c xs rfl (HO.out.alloc _) ⟨wr.heap.size,0,none⟩ 1 1 [.int .i64 (y:Int)] rfl rfl (cell_new _ _ _ _ rfl) (by simp [Value.oneCell']) (by exact q1) (by exact q2) (by have:=hk.size;simp;omega) ?_;intro v3 w3 hown3 hg3 _)
     | fail)
    go_roundg (gk - 1)
    case rel=>
     have hu3:Upd (fun k=>(Value.slice la c lcap).ownBlock=some k) wr w3:=Upd.grown (by repeat (first | exact Upd.refl _ _ | refine Upd.alloc ?_ _ | refine Upd.drew ?_)) hg3 (fun k hk=>.inl hk)
     refine ⟨y + 1,c + 1,_,_,congrArg (Value.int .i64) (by omega),rfl,by have:=HYG.out;omega,HNX.out,hown3,hk.new hu3 (fun k hk2=>?_)⟩
     rcases HO.out.2 with ⟨e0,_⟩ | ⟨g',cap',cur,e0,hbg,_⟩
     ·rw [e0] at hk2;simp [Value.ownBlock] at hk2
     ·rw [e0] at hk2;simp [Value.ownBlock] at hk2;omega
    case measure=>omega
  ·have hye:y=N:=by omega
   have q0:¬ (y:Int) < (N:Int):=by omega
   have hce:c=cntL ts N:=by rw [HC.out,hye]
   have HCE:=Lib.hid hce
   clear hce hye hyg
   go_wp2_with fail
   go_ret
   exact ⟨⟨la,lcap,by rw [← HCE.out];rfl⟩,hk⟩

theorem rcount_calls (B cap:Nat) (ts:List Bool) (w:World) (hB:BoolsAt w B ts) (hl:ts.length ≤ 65536) :
  Calls Tryz.prog 25 #[.slice (some ⟨B,0,none⟩) ts.length cap] w fun e w'=>e=.returned (.int .i64 (cntL ts ts.length:Int)) ∧ Keeps w w':=by
 have HM:=Lib.hid (members_calls B cap ts w hB hl)
 obtain ⟨N,hN⟩:∃ N,N=ts.length:=⟨_,rfl⟩
 obtain ⟨c,hc⟩:∃ c,c=cntL ts N:=⟨_,rfl⟩
 rw [← hN,← hc] at HM
 rw [← hN,← hc]
 clear hB hl hN hc
 go_enter Tryz.func25,Tryz.ntmps25
 go_wp2_with (first | (go_at_call 87;refine HM.out.mono ?_;rintro e w1 ⟨⟨a,c',rfl⟩,hk⟩) | fail)
 go_ret
 exact ⟨rfl,hk⟩

set_option maxRecDepth 100000 in
theorem vars_calls (a:Option Addr) (n cap T:Nat) (w:World) (hn:n ≤ 16) (hT:T=2 ^ n):Calls Tryz.prog 88 #[.slice a T cap] w fun e w'=>e=.returned (.int .i64 (n:Int)) ∧ w=w':=by
 have hpw:∀ d,d < n → ((2 ^ d:Nat):Int) < (T:Int):=fun d hd=>by
  have:2 ^ d < 2 ^ n:=Nat.pow_lt_pow_right (by decide) hd
  rw [hT]
  exact_mod_cast this
 have HT:=Lib.hid hT
 have HP:=Lib.hid hpw
 clear hT hpw
 go_enter Tryz.func88,Tryz.ntmps88
 go_wp2_with fail
 go_loopg [3] n (fun gk s3 wr=>∃ d:Nat,s3=.int .i64 (d:Int) ∧ d + gk=n ∧ w=wr)
 case atStart=>exact ⟨0,rfl,by omega,rfl⟩
 case round=>
  obtain ⟨d,rfl,hd,rfl⟩:=hrel
  have HD:=Lib.hid hd
  obtain ⟨P,hP⟩:∃ P,P=2 ^ d:=⟨_,rfl⟩
  have hS:=size_calls d (by omega) w
  rw [← hP] at hS
  have HS:=Lib.hid hS
  by_cases hlt:d < n
  ·have hgk:1 ≤ gk:=by omega
   have q0:(P:Int) < (T:Int):=by rw [hP];exact HP.out d hlt
   clear hS hP hd
   go_wp2_with (first | (go_at_call 52;refine HS.out.mono ?_;rintro e w1 ⟨rfl,rfl⟩) | fail)
   go_roundg (gk - 1)
   case rel=>exact ⟨d + 1,congrArg (Value.int .i64) (by omega),by have:=HD.out;omega,rfl⟩
   case measure=>omega
  ·have hdn:d=n:=by omega
   have q0:¬ (P:Int) < (T:Int):=by rw [hP,HT.out,hdn];omega
   have HDN:=Lib.hid hdn
   clear hS hP hd hdn
   go_wp2_with (first | (go_at_call 52;refine HS.out.mono ?_;rintro e w1 ⟨rfl,rfl⟩) | fail)
   go_ret
   exact ⟨by rw [← HDN.out];rfl,rfl⟩

set_option maxRecDepth 100000 in
set_option maxHeartbeats 1000000 in
theorem rones_calls (B cap n:Nat) (ts:List Bool) (w:World) (hB:BoolsAt w B ts) (ht:ts.length=2 ^ n) (hn:n ≤ 8) :
  Calls Tryz.prog 27 #[.slice (some ⟨B,0,none⟩) ts.length cap] w fun e w'=>(∃ g,e=.returned (.slice (some ⟨g,0,none⟩) (n + 1) (n + 1)) ∧ w.heap.size ≤ g ∧ RowI w' g (onesL n ts (2 ^ n))) ∧ Keeps w w':=by
 obtain ⟨i0,hi,hz0,hz1,hz2⟩:=info_parts info_int
 have hp:2 ^ n ≤ 256:=Nat.le_trans (Nat.pow_le_pow_right (by decide) hn) (by decide)
 obtain ⟨T,hT⟩:∃ T,T=2 ^ n:=⟨_,rfl⟩
 have HV:=Lib.hid (fun W=>vars_calls (some ⟨B,0,none⟩) n cap T W (by omega) hT)
 rw [ht,← hT]
 rw [← hT] at ht hp
 have HB:=Lib.hid hB
 have HT:=Lib.hid ht
 have HOL:=Lib.hid (fun y=>onesL_len n ts y)
 have HOR:=Lib.hid (fun y=>onesL_range n ts y)
 have HON:=Lib.hid (fun y=>onesN_le n y)
 clear hT hB ht
 go_enter Tryz.func27,Tryz.ntmps27
 go_wp2_with (first
  | (go_at_call 88;refine (HV.out _).mono ?_;rintro e w1 ⟨rfl,rfl⟩)
  | (at_make;refine wpList_make_full _ rfl _ _ 38 rfl w.heap.size 3 i0 (.int .i64 0) 1 Tryz.underlying38 hi hz0 hz1 .i64 .i64 _ _ (n + 1) rfl rfl (by simp) (by simp) (by rw [hz2];omega) (by unfold maxLen;omega) (by simp) ?_;intro w2 hown2 hg2)
  | fail)
 have HR2:=Lib.hid (rowI_zero hown2)
 have hkk:Keeps w w2:=⟨hg2.os,hg2.tape,hg2.output,hg2.size,fun i hi=>hg2.block i hi (by simp)⟩
 clear hown2 hg2
 go_wp2_with fail
 go_loopg [5,6,7] T (fun gk s5 s6 s7 wr=>∃ y:Nat,s5=.int .i64 (y:Int) ∧ y + gk=T ∧ RowI wr w.heap.size (onesL n ts y) ∧ Upd (fun k=>k=w.heap.size) w2 wr)
 case atStart=>exact ⟨0,rfl,by omega,HR2.out,Upd.refl _ _⟩
 case round=>
  obtain ⟨y,rfl,hyg,hR,hU⟩:=hrel
  have HR:=Lib.hid hR
  have HU:=Lib.hid hU
  have HYG:=Lib.hid hyg
  clear hR hU
  by_cases hy:y < T
  ·obtain ⟨G,hG⟩:∃ G,G=gk:=⟨_,rfl⟩
   have hG1:1 ≤ G:=by omega
   have HGG:=Lib.hid hG
   rw [← hG] at HYG
   have q0:(y:Int) < (T:Int):=by omega
   clear hyg hG
   go_wp2_with fail
   obtain ⟨wo,hwo⟩:∃ W,W=wr:=⟨_,rfl⟩
   rw [← hwo] at HR HU
   go_loopg [6,7] n (fun gk2 s6 s7 wr2=>∃ (k o:Nat),s7=.int .i64 (k:Int) ∧ s6=.int .i64 (o:Int) ∧ k + gk2=n ∧ o=onesN k y ∧ o ≤ 8 ∧ wo=wr2)
   case atStart=>exact ⟨0,0,rfl,rfl,by omega,rfl,by omega,hwo⟩
   case round=>
    obtain ⟨k,o,rfl,rfl,hkg,ho,ho8,rfl⟩:=hrel
    have HKG:=Lib.hid hkg
    have HO:=Lib.hid ho
    clear hwo
    by_cases hkn:k < n
    ·have hgk:1 ≤ gk:=by omega
     have q2:(k:Int) < (n:Int):=by omega
     have hval:=value_calls (y:Int) (k:Int) wo (by omega) (by omega) (by omega) (by omega)
     rw [bitB_nat y k] at hval
     have hnext:onesN (k + 1) y=o + y / 2 ^ k % 2:=by rw [ho];rfl
     have hle:=onesN_le (k + 1) y
     rcases Nat.mod_two_eq_zero_or_one (y / 2 ^ k) with hb | hb
     ·rw [hb,show decide ((0:Nat)=1)=false from rfl,show bitI false=0 from rfl] at hval
      rw [hb] at hnext
      have HVAL:=Lib.hid hval
      have HNX:=Lib.hid hnext
      have hle2:o + 0 ≤ 8:=by omega
      clear hval hnext hb hkg ho hle
      go_wp2_with (first | (go_at_call 74;refine HVAL.out.mono ?_;rintro e w4 ⟨rfl,rfl⟩) | fail)
      go_roundg (gk - 1)
      case rel=>exact ⟨k + 1,o + 0,congrArg (Value.int .i64) (by omega),congrArg (Value.int .i64) (by omega),by have:=HKG.out;omega,HNX.out.symm,hle2,rfl⟩
      case measure=>omega
     ·rw [hb,show decide ((1:Nat)=1)=true from rfl,show bitI true=1 from rfl] at hval
      rw [hb] at hnext
      have HVAL:=Lib.hid hval
      have HNX:=Lib.hid hnext
      have hle2:o + 1 ≤ 8:=by omega
      clear hval hnext hb hkg ho hle
      go_wp2_with (first | (go_at_call 74;refine HVAL.out.mono ?_;rintro e w4 ⟨rfl,rfl⟩) | fail)
      go_roundg (gk - 1)
      case rel=>exact ⟨k + 1,o + 1,congrArg (Value.int .i64) (by omega),congrArg (Value.int .i64) (by omega),by have:=HKG.out;omega,HNX.out.symm,hle2,rfl⟩
      case measure=>omega
    ·have hkn2:k=n:=by omega
     have q2:¬ (k:Int) < (n:Int):=by omega
     have hon:o=onesN n y:=by rw [ho,hkn2]
     have HOE:=Lib.hid hon
     have hkr:Keeps w wo:=hkk.new HU.out (fun k hk=>by omega)
     obtain ⟨b,hb⟩:∃ b,ts[y]?=some b:=⟨_,List.getElem?_eq_getElem (by rw [HT.out];exact hy)⟩
     have cb:=(HB.out.keep (Keeps.upd hkr (fun _=>False)) (fun h=>h)).cell hb
     have hbl:=lt_of_cell cb
     have hrlt:=HR.out.lt
     have nbB:B ≠ w.heap.size:=fun e=>by have:=HB.out.lt;omega
     have HBY:=Lib.hid hb
     clear hb hkg ho hkn2 hon
     cases b with
     | false=>
      have hnext:onesL n ts (y + 1)=onesL n ts y:=by
       show (if ts[y]?=some true then _ else onesL n ts y)=_
       rw [HBY.out,if_neg (by simp)]
      have HNX:=Lib.hid hnext
      clear hnext
      go_wp2_with fail
      go_roundg (G - 1)
      case rel=>exact ⟨y + 1,congrArg (Value.int .i64) (by omega),by have:=HYG.out;omega,by rw [HNX.out];exact HR.out,HU.out⟩
      case measure=>have:=HGG.out;omega
     | true=>
      have hlo:o < (onesL n ts y).length:=by rw [HOL.out,HOE.out];have:=HON.out y;omega
      obtain ⟨z,hz⟩:∃ z,(onesL n ts y)[o]?=some z:=⟨_,List.getElem?_eq_getElem hlo⟩
      have hzr:=HOR.out y z (List.mem_of_getElem? hz)
      have hnext:onesL n ts (y + 1)=(onesL n ts y).set o (z + 1):=by
       show (if ts[y]?=some true then (onesL n ts y).set (onesN n y) ((onesL n ts y).getD (onesN n y) 0 + 1) else onesL n ts y)=_
       rw [HBY.out,if_pos rfl,← HOE.out,List.getD_eq_getElem?_getD,hz]
       rfl
      have HNX:=Lib.hid hnext
      have cz:=HR.out.cell hz
      have cf:=HR.out.frozen o
      have hol:o < n + 1:=by rw [HOL.out] at hlo;exact hlo
      have HLO:=Lib.hid hlo
      obtain ⟨z0,z1⟩:=hzr
      clear hnext hz hlo
      go_wp2_with fail
      go_roundg (G - 1)
      case rel=>exact ⟨y + 1,congrArg (Value.int .i64) (by omega),by have:=HYG.out;omega,by rw [HNX.out];exact HR.out.set o (z + 1) HLO.out,Upd.setCell HU.out (Or.inl rfl) _⟩
      case measure=>have:=HGG.out;omega
  ·have hye:y=T:=by omega
   have q0:¬ (y:Int) < (T:Int):=by omega
   have HYE:=Lib.hid hye
   clear hye hyg
   go_wp2_with fail
   go_ret
   exact ⟨⟨w.heap.size,rfl,Nat.le_refl _,by rw [← HYE.out];exact HR.out⟩,hkk.new HU.out (fun k hk=>by omega)⟩

theorem NatV.ints {lo:Nat} {w w':World} {v g:Nat} {x:Value} {rs:List Int} (h:NatV lo w v x) (hr:RowI w g rs) (hu:Upd (fun k=>k=g) w w'):NatV lo w' v x:=by
 obtain ⟨a,cap,h1,h2,h3⟩:=h
 refine ⟨a,cap,h1,h2,fun hn=>?_⟩
 obtain ⟨g',e1,e2,e3⟩:=h3 hn
 refine ⟨g',e1,e2,e3.keep hu (fun hh=>?_)⟩
 subst hh
 obtain ⟨c1,q1,_⟩:=hr
 obtain ⟨c2,q2,_⟩:=e3
 rw [q1] at q2
 cases q2

theorem ones_step {K:Nat} (hK:2 ≤ K) {l:List Int} (ho:WordsOk K l) {i:Nat} {x:Int} (hx:l[i]?=some x):(valW K (l.drop i)).toNat % K=x.toNat ∧ (valW K (l.drop i)).toNat / K=(valW K (l.drop (i + 1))).toNat:=by
 have hr:=ho x (List.mem_of_getElem? hx)
 have h0:=valW_nonneg (ho.drop (i + 1))
 rw [drop_cons hx]
 show (x + (K:Int) * valW K (l.drop (i + 1))).toNat % K=_ ∧ (x + (K:Int) * valW K (l.drop (i + 1))).toNat / K=_
 obtain ⟨X,rfl⟩:=Int.eq_ofNat_of_zero_le hr.1
 obtain ⟨V,hV⟩:=Int.eq_ofNat_of_zero_le h0
 rw [hV,← Int.natCast_mul,← Int.natCast_add,Int.toNat_natCast,Int.toNat_natCast,Int.toNat_natCast]
 have hX:X < K:=by omega
 exact ⟨by rw [Nat.add_mul_mod_self_left,Nat.mod_eq_of_lt hX],by rw [Nat.add_mul_div_left _ _ (by omega),Nat.div_eq_of_lt hX,Nat.zero_add]⟩

set_option maxRecDepth 100000 in
set_option maxHeartbeats 1000000 in
theorem mones_calls {F:Nat → Prop} {w:World} {sb:Nat} {M:St} (h:StoreRep F w sb M) (f:Int) (v:Edge) (hv:v.ok) (n:Nat) (hn:M.n=(n:Int)) (h8:n ≤ 8) (hm:mayC M f v 0=0) :
  Calls Tryz.prog 20 #[.pointer (some ⟨sb,0,none⟩),.int .u8 f,.agg #[.int .u8 v.tag,.int .u32 v.to]] w fun e w'=>(∃ g,e=.returned (.tuple #[.slice (some ⟨g,0,none⟩) (n + 1) (n + 1),.int .u8 0]) ∧ w.heap.size ≤ g ∧ RowI w' g (onesL n (tabE M f v 0) (2 ^ n))) ∧ Keeps w w':=by
 obtain ⟨i0,hi,hz0,hz1,hz2⟩:=info_parts info_int
 obtain ⟨l,hl⟩:∃ l,l=onesL n (tabE M f v 0) (2 ^ n):=⟨_,rfl⟩
 have hp:2 ^ n ≤ 256:=Nat.le_trans (Nat.pow_le_pow_right (by decide) h8) (by decide)
 have hll:l.length=n + 1:=by rw [hl];exact onesL_len _ _ _
 have hlo:WordsOk 1048576 l:=fun x hx=>by
  rw [hl] at hx
  have:=onesL_range n (tabE M f v 0) (2 ^ n) x hx
  omega
 have hval:(wE (wtF (List.replicate n (1:Int))) (wtF (List.replicate n (1048576:Int))) M f v 0).toNat=(valW 1048576 (l.drop 0)).toNat:=by
  rw [wE_rep hn,List.drop_zero,hl,onesL_sum]
  rfl
 have hsm:∀ i,(natW B64 (valW 1048576 (l.drop i)).toNat).length ≤ 9:=fun i=>by
  refine natW_len b64_two ?_
  have h1:=valW_lt (hlo.drop i)
  have h2:=valW_nonneg (hlo.drop i)
  rw [List.length_drop,hll] at h1
  have e:((1048576 ^ (n + 1 - i):Nat):Int)=((1048576:Nat):Int) ^ (n + 1 - i):=Int.natCast_pow _ _
  have h3:1048576 ^ (n + 1 - i) ≤ 1048576 ^ 9:=Nat.pow_le_pow_right (by decide) (by omega)
  have h4:1048576 ^ 9 < B64 ^ 9:=by decide
  omega
 have hstep:=fun (i:Nat) (x:Int) (hx:l[i]?=some x)=>ones_step (K:=1048576) (by decide) hlo hx
 have hrg:∀ (i:Nat) (x:Int),l[i]?=some x → 0 ≤ x ∧ x < 1048576:=fun i x hx=>hlo x (List.mem_of_getElem? hx)
 rw [← hl]
 have HV:=Lib.hid (fun (W:World) (hW:Keeps w W)=>store_vars (h.keeps hW))
 rw [hn] at HV
 have HW:=Lib.hid (fun (W:World) (hW:Keeps w W) (a b:Option Addr) (ha:WordsAt W a (List.replicate n ((1:Nat):Int))) (hb:WordsAt W b (List.replicate n ((1048576:Nat):Int)))=>by
  have q:=weigh_calls (h.keeps hW) f v hv a b n n n (List.replicate n 1) (List.replicate n 1048576) hn h8 (by simp) (by simp) ha hb hm
  rw [hval] at q
  exact q)
 have HS1:=Lib.hid (fun (W:World)=>msame_calls 1 n W (by decide) (by omega))
 have HS2:=Lib.hid (fun (W:World)=>msame_calls 1048576 n W (by decide) (by omega))
 have HSM:=Lib.hid hsm
 have HST:=Lib.hid hstep
 have HRG:=Lib.hid hrg
 have HLL:=Lib.hid hll
 clear h hval hm hn hl hlo hsm hstep hrg hll
 go_enter Tryz.func20,Tryz.ntmps20
 go_wp2_with fail
 obtain ⟨W1,hW1⟩:∃ W1,W1=w.alloc (.cells #[.int .u8 v.tag,.int .u32 v.to] 25):=⟨_,rfl⟩
 have kW1:Keeps w W1:=by rw [hW1];exact (Keeps.refl _).alloc _
 have v0:W1.cell? ⟨w.heap.size,0,none⟩=some (.int .u8 v.tag):=by rw [hW1];simp [go_sem]
 have v1:W1.cell? ⟨w.heap.size,1,none⟩=some (.int .u32 v.to):=by rw [hW1];simp [go_sem]
 rw [← hW1]
 clear hW1
 go_cut [8,9] (fun s8 s9 wx=>∃ x,s8=x ∧ s9=.int .u8 0 ∧ NatV 0 wx (valW 1048576 (l.drop 0)).toNat x ∧ Keeps W1 wx)
 case first=>
  go_region_held3 (fun w'=>w'.cell? ⟨w.heap.size,0,none⟩=some (.int .u8 v.tag) ∧ w'.cell? ⟨w.heap.size,1,none⟩=some (.int .u32 v.to)) (go_keep) ((first
   | (go_at_call 67;refine (HV.out _ (by (exact kp))).mono ?_;rintro e' w3 ⟨rfl,rfl⟩)
   | (go_at_call 82;have qq:=HS1;clear qq;refine (HS1.out _).mono ?_;rintro e' w4 ⟨⟨a4,rfl,hw4⟩,hk4⟩;have HW4:=Lib.hid hw4;have v0:=hk4.cell v0;have v1:=hk4.cell v1;clear HS1 hw4)
   | (go_at_call 82;refine (HS2.out _).mono ?_;rintro e' w5 ⟨⟨a5,rfl,hw5⟩,hk5⟩;have HW5:=Lib.hid hw5;have v0:=hk5.cell v0;have v1:=hk5.cell v1;clear hw5)
   | (go_at_call 13;refine (HW.out _ (by (exact kp)) a4 a5 (HW4.out.keeps (by (exact kp))) HW5.out).mono ?_;rintro e' w6 ⟨⟨x6,rfl,hx6⟩,hk6⟩;have HX6:=Lib.hid hx6;have v0:=hk6.cell v0;have v1:=hk6.cell v1;clear hx6)))
  all_goals (try go_wp2_with fail)
  all_goals go_meet
  all_goals exact ⟨x6,rfl,rfl,HX6.out,by (exact kp)⟩
 case rest=>
  obtain ⟨W2,rfl⟩:∃ W,W=wc:=⟨_,rfl⟩
  obtain ⟨x,rfl,rfl,hx,hkc⟩:=hcut
  have HX:=Lib.hid hx
  have kk2:Keeps w W2:=kW1.trans hkc
  clear hx hkc
  go_wp2_with (first
   | (go_at_call 67;refine (HV.out _ kk2).mono ?_;rintro e' w3 ⟨rfl,rfl⟩)
   | (at_make;refine wpList_make_full _ rfl _ _ 38 rfl W2.heap.size 3 i0 (.int .i64 0) 1 Tryz.underlying38 hi hz0 hz1 .i64 .i64 _ _ (n + 1) rfl rfl (by simp) (by simp) (by rw [hz2];omega) (by unfold maxLen;omega) (by simp) ?_;intro w4 hown4 hg4)
   | fail)
  have HR4:=Lib.hid (rowI_zero hown4)
  have hkk:Keeps W2 w4:=⟨hg4.os,hg4.tape,hg4.output,hg4.size,fun i hi=>hg4.block i hi (by simp)⟩
  have hszz:=hkk.size
  have hsz2:=kk2.size
  clear hown4 hg4
  go_wp2_with fail
  go_loopg [8,11,12,35] (n + 1) (fun gk s8 s11 s12 s35 wr=>∃ (i:Nat) (y:Value) (rs:List Int),s35=.int .i64 (i:Int) ∧ s8=y ∧ i + gk=n + 1 ∧ NatV 0 wr (valW 1048576 (l.drop i)).toNat y ∧ rs.length=n + 1 ∧ rs.take i=l.take i ∧ RowI wr W2.heap.size rs ∧ Upd (fun k=>k=W2.heap.size) w4 wr)
  case atStart=>exact ⟨0,_,List.replicate (n + 1) 0,rfl,rfl,by omega,HX.out.keeps hkk,by simp,rfl,HR4.out,Upd.refl _ _⟩
  case round=>
   obtain ⟨i,y,rs,rfl,rfl,hig,hy,hrl,htk,hR,hU⟩:=hrel
   have HY:=Lib.hid hy
   have HR:=Lib.hid hR
   have HU:=Lib.hid hU
   have HL:=Lib.hid hrl
   have HTK:=Lib.hid htk
   have HIG:=Lib.hid hig
   have hrlt:=HR.out.lt
   clear hy hR hU hrl htk
   by_cases hin:i < n + 1
   ·have hgk:1 ≤ gk:=by omega
    have q0:(i:Int) < (n:Int) + 1:=by omega
    obtain ⟨z,hz⟩:∃ z,l[i]?=some z:=⟨_,List.getElem?_eq_getElem (by rw [HLL.out];exact hin)⟩
    obtain ⟨st1,st2⟩:=HST.out i z hz
    obtain ⟨z0,z1⟩:=HRG.out i z hz
    have hcall:=ndivs_calls HY.out (by have:=HSM.out i;omega)
    rw [st1,st2,Int.toNat_of_nonneg z0] at hcall
    have HCALL:=Lib.hid hcall
    have HZ:=Lib.hid hz
    obtain ⟨o,ho⟩:∃ o,rs[i]?=some o:=⟨_,List.getElem?_eq_getElem (by rw [HL.out];exact hin)⟩
    have HO:=Lib.hid ho
    clear hz st1 st2 hcall ho hig
    go_wp2_with (first | (go_at_call 83;refine HCALL.out.mono ?_;rintro e' w6 ⟨⟨x6,rfl,hx6⟩,hk6⟩;have HX6:=Lib.hid hx6;have HR6:=Lib.hid (HR.out.keeps hk6);have cz:=HR6.out.cell HO.out;have cf:=HR6.out.frozen i;have hlt6:=HR6.out.lt;clear hx6) | fail)
    go_roundg (gk - 1)
    case rel=>exact ⟨i + 1,x6,rs.set i z,congrArg (Value.int .i64) (by omega),rfl,by have:=HIG.out;omega,((HX6.out.le (Nat.zero_le _)).ints HR6.out (Upd.setCell (Upd.refl (fun k=>k=W2.heap.size) _) (Or.inl rfl) _)),by rw [List.length_set,HL.out],by rw [wset_take (by rw [HL.out];exact hin),HTK.out,wtake_succ HZ.out],HR6.out.set i z (by rw [HL.out];exact hin),Upd.setCell (Upd.trans' HU.out (hk6.upd _)) (Or.inl rfl) _⟩
    case measure=>omega
   ·have hie:i=n + 1:=by omega
    have q0:¬ (i:Int) < (n:Int) + 1:=by omega
    have hfin:rs=l:=by
     have h1:=HTK.out
     rw [hie,List.take_of_length_le (by rw [HL.out];exact Nat.le_refl _),List.take_of_length_le (by rw [HLL.out];exact Nat.le_refl _)] at h1
     exact h1
    have HF:=Lib.hid hfin
    clear hie hfin hig
    go_wp2_with fail
    go_ret2
    exact ⟨⟨W2.heap.size,rfl,hsz2,by rw [← HF.out];exact HR.out⟩,kk2.trans (hkk.new HU.out (fun k hk=>by omega))⟩

theorem mones_no {F:Nat → Prop} {w:World} {sb:Nat} {M:St} (h:StoreRep F w sb M) (f:Int) (v:Edge) (hv:v.ok) (n:Nat) (hn:M.n=(n:Int)) (h8:n ≤ 8) (c:Int) (hm:mayC M f v 0=c) (hc:c ≠ 0) :
  Calls Tryz.prog 20 #[.pointer (some ⟨sb,0,none⟩),.int .u8 f,.agg #[.int .u8 v.tag,.int .u32 v.to]] w fun e w'=>e=.returned (.tuple #[.slice none 0 0,.int .u8 c]) ∧ Keeps w w':=by
 have hwc:weighC M f v n n=c:=by unfold weighC;rw [if_pos (by rw [hm];exact hc),hm]
 have hcr:=mayC_range M f v 0
 rw [hm] at hcr
 have HV:=Lib.hid (fun (W:World) (hW:Keeps w W)=>store_vars (h.keeps hW))
 rw [hn] at HV
 have HW:=Lib.hid (fun (W:World) (hW:Keeps w W) (a b:Option Addr)=>by
  have q:=weigh_no (h.keeps hW) f v hv a b n n n n (by rw [hwc];exact hc) (by omega)
  rw [hwc] at q
  exact q)
 have HS1:=Lib.hid (fun (W:World)=>msame_calls 1 n W (by decide) (by omega))
 have HS2:=Lib.hid (fun (W:World)=>msame_calls 1048576 n W (by decide) (by omega))
 have g0:(c == 0)=false:=by simp [hc]
 clear h hm hn hwc hc
 go_enter Tryz.func20,Tryz.ntmps20
 go_wp2_with fail
 obtain ⟨W1,hW1⟩:∃ W1,W1=w.alloc (.cells #[.int .u8 v.tag,.int .u32 v.to] 25):=⟨_,rfl⟩
 have kW1:Keeps w W1:=by rw [hW1];exact (Keeps.refl _).alloc _
 have v0:W1.cell? ⟨w.heap.size,0,none⟩=some (.int .u8 v.tag):=by rw [hW1];simp [go_sem]
 have v1:W1.cell? ⟨w.heap.size,1,none⟩=some (.int .u32 v.to):=by rw [hW1];simp [go_sem]
 rw [← hW1]
 clear hW1
 go_cut [8,9] (fun s8 s9 wx=>s8=.slice none 0 0 ∧ s9=.int .u8 c ∧ Keeps W1 wx)
 case first=>
  go_region_held3 (fun w'=>w'.cell? ⟨w.heap.size,0,none⟩=some (.int .u8 v.tag) ∧ w'.cell? ⟨w.heap.size,1,none⟩=some (.int .u32 v.to)) (go_keep) ((first
   | (go_at_call 67;refine (HV.out _ (by (exact kp))).mono ?_;rintro e' w3 ⟨rfl,rfl⟩)
   | (go_at_call 82;have qq:=HS1;clear qq;refine (HS1.out _).mono ?_;rintro e' w4 ⟨⟨a4,rfl,hw4⟩,hk4⟩;have v0:=hk4.cell v0;have v1:=hk4.cell v1;clear HS1 hw4)
   | (go_at_call 82;refine (HS2.out _).mono ?_;rintro e' w5 ⟨⟨a5,rfl,hw5⟩,hk5⟩;have v0:=hk5.cell v0;have v1:=hk5.cell v1;clear hw5)
   | (go_at_call 13;refine (HW.out _ (by (exact kp)) a4 a5).mono ?_;rintro e' w6 ⟨rfl,hk6⟩;have v0:=hk6.cell v0;have v1:=hk6.cell v1)))
  all_goals (try go_wp2_with fail)
  all_goals go_meet
  all_goals exact ⟨rfl,rfl,by (exact kp)⟩
 case rest=>
  obtain ⟨rfl,rfl,hkc⟩:=hcut
  go_wp2_with fail
  go_ret2
  exact ⟨rfl,kW1.trans hkc⟩

end Go.Proofs.YtpgcbmbnognieaaGreat
