/-
  nat.Mul.
-/
import Derived.Test.YtpgcbmbnognieaaGreatPVBase
import Derived.Lib.Mul64
import Derived.Laws.Bits64b
namespace Go.Proofs.YtpgcbmbnognieaaGreat
set_option linter.unusedSimpArgs false
set_option linter.unusedVariables false
set_option maxHeartbeats 600000
open Go.RowKit

theorem lowN (a:Nat) (ha:a < 18446744073709551616):bits .and .u64 (a:Int) 4294967295=((a % 4294967296:Nat):Int):=by
 have h:=bits_and_u64_nat a 4294967295 ha (by omega)
 rw [show a &&& 4294967295=a % 4294967296 from Nat.and_two_pow_sub_one_eq_mod a 32] at h
 exact h

theorem castDiv (a:Nat):(a:Int) / 4294967296=((a / 4294967296:Nat):Int):=by omega

theorem castMul (a b:Nat):(a:Int) * (b:Int)=((a * b:Nat):Int):=(Int.natCast_mul a b).symm

theorem castAdd (a b:Nat):(a:Int) + (b:Int)=((a + b:Nat):Int):=(Int.natCast_add a b).symm

theorem wrapSmall (a:Nat) (ha:a < 18446744073709551616):IntKind.u64.wrap (a:Int)=(a:Int):=by rw [IntKind.wrap_u64];omega

theorem wrapMod (a:Nat):IntKind.u64.wrap (a:Int)=((a % 18446744073709551616:Nat):Int):=by rw [IntKind.wrap_u64];omega

set_option maxHeartbeats 1000000 in
theorem mul64_calls (x y:Nat) (hx:x < 18446744073709551616) (hy:y < 18446744073709551616) (w:World):Calls Tryz.prog 242 #[.int .u64 (x:Int),.int .u64 (y:Int)] w fun e w'=>e=.returned (.tuple #[.int .u64 ((x * y / 18446744073709551616:Nat):Int),.int .u64 ((x * y % 18446744073709551616:Nat):Int)]) ∧ w=w':=by
 obtain ⟨bd,bt,bw,hhi⟩:=Lib.mul64_hi x y hx hy
 have ba:=Lib.half_mul_le (a:=x / 4294967296) (b:=y / 4294967296) (by omega) (by omega)
 have bb:=Lib.half_mul_le (a:=x / 4294967296) (b:=y % 4294967296) (by omega) (by omega)
 have bc:=Lib.half_mul_le (a:=x % 4294967296) (b:=y / 4294967296) (by omega) (by omega)
 have ba':x / 4294967296 * (y / 4294967296) < 18446744073709551616:=by omega
 have bb':x / 4294967296 * (y % 4294967296) < 18446744073709551616:=by omega
 have bc':x % 4294967296 * (y / 4294967296) < 18446744073709551616:=by omega
 have bh1:x / 4294967296 * (y / 4294967296) + (x / 4294967296 * (y % 4294967296) + x % 4294967296 * (y % 4294967296) / 4294967296) / 4294967296 < 18446744073709551616:=by omega
 have bh:x / 4294967296 * (y / 4294967296) + (x / 4294967296 * (y % 4294967296) + x % 4294967296 * (y % 4294967296) / 4294967296) / 4294967296 + ((x / 4294967296 * (y % 4294967296) + x % 4294967296 * (y % 4294967296) / 4294967296) % 4294967296 + x % 4294967296 * (y / 4294967296)) / 4294967296 < 18446744073709551616:=by omega
 go_enter Tryz.func242,Tryz.ntmps242
 go_wp2
 simp only [lowN x hx,lowN y hy,castDiv,castMul,castAdd,wrapSmall _ bd,wrapSmall _ bb',wrapSmall _ bt,lowN _ bt,wrapSmall _ bc',wrapSmall _ bw,wrapSmall _ ba',wrapSmall _ bh1,wrapSmall _ bh,wrapMod (x * y)]
 rw [hhi]
 go_ret2
 exact ⟨rfl,rfl⟩

theorem mul_step {x y o c:Int} (hx0:0 ≤ x) (hx1:x < 2 ^ 64) (hy0:0 ≤ y) (hy1:y < 2 ^ 64) (ho0:0 ≤ o) (ho1:o < 2 ^ 64) (hc0:0 ≤ c) (hc1:c < 2 ^ 64) :
  ∃ h l s1 k1 s2 k2:Int,(∀ w,Calls Tryz.prog 242 #[.int .u64 x,.int .u64 y] w fun e w'=>e=.returned (.tuple #[.int .u64 h,.int .u64 l]) ∧ w=w') ∧
   (∀ w,(callFunc 243 #[.int .u64 l,.int .u64 o,.int .u64 0]).run Tryz.prog w=.ok (.value (.tuple #[.int .u64 s1,.int .u64 k1])) w) ∧
   (∀ w,(callFunc 243 #[.int .u64 s1,.int .u64 c,.int .u64 0]).run Tryz.prog w=.ok (.value (.tuple #[.int .u64 s2,.int .u64 k2])) w) ∧
   s2=(x * y + o + c) % B64 ∧ h + k1 + k2=(x * y + o + c) / B64 ∧ 0 ≤ h + k1 ∧ h + k1 < 18446744073709551616 ∧ 0 ≤ h + k1 + k2 ∧ h + k1 + k2 < 18446744073709551616:=by
 obtain ⟨X,rfl⟩:=Int.eq_ofNat_of_zero_le hx0
 obtain ⟨Y,rfl⟩:=Int.eq_ofNat_of_zero_le hy0
 obtain ⟨m1,m2,m3,m4,m5⟩:=mul_word (b:=B64) (x:=(X:Int)) (y:=(Y:Int)) (o:=o) (c:=c) ⟨hx0,hx1⟩ ⟨hy0,hy1⟩ ⟨ho0,ho1⟩ ⟨hc0,hc1⟩
 have hM:=fun w=>mul64_calls X Y (by omega) (by omega) w
 have hp:((X * Y:Nat):Int)=(X:Int) * (Y:Int):=Int.natCast_mul X Y
 rw [← hp] at m1 m2 m3 m4 m5 ⊢
 generalize X * Y=P at *
 have eB:(B64:Int)=18446744073709551616:=rfl
 rw [eB] at m2 m3 m4 m5 ⊢
 have hl0:(0:Int) ≤ ((P % 18446744073709551616:Nat):Int):=by omega
 have hA1:=fun w=>add64_run ((P % 18446744073709551616:Nat):Int) o 0 hl0 ho0 (by omega) (by omega) w
 have hA2:=fun w=>add64_run ((((P % 18446744073709551616:Nat):Int) + o + 0) % 18446744073709551616) c 0 (by omega) hc0 (by omega) (by omega) w
 exact ⟨_,_,_,_,_,_,hM,hA1,hA2,by omega,by omega,by omega,by omega,by omega,by omega⟩

set_option maxRecDepth 100000 in
set_option maxHeartbeats 800000 in
theorem nmul_calls {lo lo' u v:Nat} {x y:Value} {w:World} (hx:NatV lo w u x) (hy:NatV lo' w v y) (hu:(natW B64 u).length ≤ 32) (hv:(natW B64 v).length ≤ 32) :
  Calls Tryz.prog 197 #[x,y] w fun e w'=>∃ z,e=.returned (.tuple #[z,.bool true]) ∧ NatV w.heap.size w' (u * v) z ∧ Keeps w w':=by
 obtain ⟨j0,hj,jz0,jz1,jz2⟩:=info_parts info_u64
 have hbig:u * v < B64 ^ 64:=by
  have h1:=natW_lt b64_two hu
  have h2:=natW_lt b64_two hv
  have h3:B64 ^ 64=B64 ^ 32 * B64 ^ 32:=by rw [← Nat.pow_add]
  rw [h3]
  exact Nat.mul_lt_mul'' h1 h2
 have hl64:(natW B64 (u * v)).length ≤ 64:=natW_len b64_two hbig
 have hTold:∀ (W:World) (g n:Nat) (ws:List Int),ws.length=n → n ≤ 64 → valW B64 ws=((u * v:Nat):Int) → WordsOk B64 ws → RowU W g ws → Calls Tryz.prog 244 #[.slice (some ⟨g,0,none⟩) n n] W fun e w'=>∃ z,e=.returned (.tuple #[z,.bool true]) ∧ NatV W.heap.size w' (u * v) z ∧ Keeps W w':=fun W g n ws hn h64 hval hok hrow=>by
  have q:=told_calls n ws W hrow hok (by omega) (by omega) (by rw [hval,Int.toNat_natCast];exact hl64)
  rw [hval,Int.toNat_natCast,hn] at q
  exact q
 obtain ⟨us,hus⟩:∃ us,us=natW B64 u:=⟨_,rfl⟩
 obtain ⟨vs,hvs⟩:∃ vs,vs=natW B64 v:=⟨_,rfl⟩
 have huv:valW B64 us * valW B64 vs=((u * v:Nat):Int):=by rw [hus,hvs,valW_natW b64_two,valW_natW b64_two];exact (Int.natCast_mul u v).symm
 have hB:Calls Tryz.prog 241 #[x,y] w fun e w'=>∃ a1 c1 a2 c2,e=.returned (.tuple #[.slice a1 us.length c1,.slice a2 vs.length c2,.bool true]) ∧ WordsAt w' a1 us ∧ WordsAt w' a2 vs ∧ Keeps w w':=by
  rw [hus,hvs]
  refine (nboth_calls hx hy (by omega) (by omega)).mono ?_
  rintro e w1 ⟨x',y',rfl,h1,h2,hk⟩
  obtain ⟨a1,c1,rfl,-,q1⟩:=natV_len h1
  obtain ⟨a2,c2,rfl,-,q2⟩:=natV_len h2
  exact ⟨a1,c1,a2,c2,rfl,q1,q2,hk⟩
 rw [← hus] at hu
 rw [← hvs] at hv
 clear hus hvs hbig hl64 hx hy
 obtain ⟨n1,hn1⟩:∃ n,n=us.length:=⟨_,rfl⟩
 obtain ⟨n2,hn2⟩:∃ n,n=vs.length:=⟨_,rfl⟩
 rw [← hn1] at hu
 rw [← hn2] at hv
 rw [← hn1,← hn2] at hB
 have HN1:=Lib.hid hn1
 have HN2:=Lib.hid hn2
 have HT:=Lib.hid hTold
 have HUV:=Lib.hid huv
 have HB:=Lib.hid hB
 clear hTold huv hn1 hn2 hB
 go_enter Tryz.func197,Tryz.ntmps197
 go_wp2_with (first
  | (go_at_call 241;refine HB.out.mono ?_;rintro e w1 ⟨a1,c1,a2,c2,rfl,hw1,hw2,hk1⟩;have HW1:=Lib.hid hw1;have HW2:=Lib.hid hw2;clear hw1 hw2)
  | (at_make;refine wpList_make_full _ rfl _ _ 26 rfl w1.heap.size 50 j0 (.int .u64 0) 1 Tryz.underlying26 hj jz0 jz1 .i64 .i64 _ _ (n1 + n2) rfl rfl (by simp) (by simp) (by rw [jz2];omega) (by unfold maxLen;omega) (by simp) ?_;intro w2 hown2 hg2)
  | fail)
 have HR2:=Lib.hid (rowU_made hown2)
 have hkk:Keeps w1 w2:=⟨hg2.os,hg2.tape,hg2.output,hg2.size,fun i hi=>hg2.block i hi (by simp)⟩
 have hks:=hk1.size
 have hszz:=hkk.size
 clear hown2 hg2
 go_wp2_with fail
 go_loopg [8,9,10,11,12,13,14,15,33] n1 (fun gk s8 s9 s10 s11 s12 s13 s14 s15 s33 wr=>∃ (i:Nat) (rs:List Int),s33=.int .i64 (i:Int) ∧ i + gk=n1 ∧ rs.length=n1 + n2 ∧ WordsOk B64 rs ∧ valW B64 rs=valW B64 (us.take i) * valW B64 vs ∧ (∀ k z,i + n2 ≤ k → rs[k]?=some z → z=0) ∧ RowU wr w1.heap.size rs ∧ Upd (fun k=>k=w1.heap.size) w2 wr)
 case atStart=>exact ⟨0,List.replicate (n1 + n2) 0,rfl,by omega,by simp,wordsOk_zeros (by decide) _,by rw [valW_zeros,List.take_zero];show (0:Int)=0 * _;rw [Int.zero_mul],fun k z hk hz=>List.eq_of_mem_replicate (List.mem_of_getElem? hz),HR2.out,Upd.refl _ _⟩
 case round=>
  obtain ⟨i,rs0,rfl,hig,hrl0,hok0,hval0,hz0,hR0,hU0⟩:=hrel
  have HR0:=Lib.hid hR0
  have HU0:=Lib.hid hU0
  have HL0:=Lib.hid hrl0
  have HV0:=Lib.hid hval0
  have HZ0:=Lib.hid hz0
  have HO0:=Lib.hid hok0
  clear hR0 hU0 hrl0 hval0 hz0 hok0
  have hkr:Keeps w1 wr:=hkk.new HU0.out (fun k hk=>by omega)
  by_cases hi:i < n1
  ·obtain ⟨p,b1,o1,hp,hp0,hp1,ha1,hcp⟩:=word_at (HW1.out.keeps hkr) i (by rw [← HN1.out];exact hi)
   subst ha1
   have hb1:=lt_of_cell hcp
   have q0:(i:Int) < (n1:Int):=by omega
   have HP:=Lib.hid hp
   clear hp
   obtain ⟨G,hG⟩:∃ G,G=gk:=⟨_,rfl⟩
   rw [← hG] at hig
   go_wp2_with fail
   obtain ⟨wo,hwo⟩:∃ W,W=wr:=⟨_,rfl⟩
   rw [← hwo] at HR0 HU0 hkr
   go_loopg [10,11,12,13,14,15,40] n2 (fun gk2 s10 s11 s12 s13 s14 s15 s40 wr2=>∃ (j:Nat) (c:Int) (rs:List Int),s40=.int .i64 (j:Int) ∧ s10=.int .u64 c ∧ j + gk2=n2 ∧ 0 ≤ c ∧ c < 2 ^ 64 ∧ rs.length=n1 + n2 ∧ WordsOk B64 rs ∧ valW B64 rs + (B64:Int) ^ (i + j) * c=valW B64 rs0 + (B64:Int) ^ i * (p * valW B64 (vs.take j)) ∧ (∀ k z,i + n2 ≤ k → rs[k]?=some z → z=0) ∧ RowU wr2 w1.heap.size rs ∧ Upd (fun k=>k=w1.heap.size) w2 wr2)
   case atStart=>exact ⟨0,0,rs0,rfl,rfl,by omega,by omega,by decide,HL0.out,HO0.out,by rw [List.take_zero,Int.mul_zero];show _=_ + _ * (p * 0);rw [Int.mul_zero,Int.mul_zero],HZ0.out,by rw [← hwo];exact HR0.out,by rw [← hwo];exact HU0.out⟩
   case round=>
    obtain ⟨j,c,rs,rfl,rfl,hjg,c0,c1',hrl,hok,hval,hz,hR,hU⟩:=hrel
    have HR:=Lib.hid hR
    have HU:=Lib.hid hU
    have HL:=Lib.hid hrl
    have HV:=Lib.hid hval
    have HZ:=Lib.hid hz
    have HO:=Lib.hid hok
    clear hR hU hrl hval hz hok hwo
    have hkr2:Keeps w1 wr:=hkk.new HU.out (fun k hk=>by omega)
    have hrlt:=HR.out.lt
    by_cases hjn:j < n2
    ·obtain ⟨q,b2,o2,hq,hq0,hq1,ha2,hcq⟩:=word_at (HW2.out.keeps hkr2) j (by rw [← HN2.out];exact hjn)
     subst ha2
     have hb2:=lt_of_cell hcq
     have q02:(j:Int) < (n2:Int):=by omega
     have hij:i + j < n1 + n2:=by omega
     obtain ⟨z,hz⟩:∃ z,rs[i + j]?=some z:=⟨_,List.getElem?_eq_getElem (by rw [HL.out];exact hij)⟩
     have hzr:=HO.out z (List.mem_of_getElem? hz)
     have cz:=HR.out.cell hz
     have cf:=HR.out.frozen (i + j)
     obtain ⟨h,l,s1,k1,s2,k2,hM,hA1,hA2,e1,e2,g1,g2,g3,g4⟩:=mul_step hp0 hp1 hq0 hq1 hzr.1 (by show z < ((2:Int) ^ 64);exact hzr.2) c0 c1'
     have hs20:0 ≤ s2 ∧ s2 < (B64:Int):=by rw [e1];exact ⟨Int.emod_nonneg _ (by decide),Int.emod_lt_of_pos _ (by decide)⟩
     have hvn:valW B64 (rs.set (i + j) s2) + (B64:Int) ^ (i + (j + 1)) * (h + k1 + k2)=valW B64 rs0 + (B64:Int) ^ i * (p * valW B64 (vs.take (j + 1))):=by
      rw [valW_set B64 hz,valW_succ B64 hq,show i + (j + 1)=i + j + 1 by omega,Int.pow_succ,e1,e2]
      have e3:=Int.emod_add_mul_ediv (p * q + z + c) (B64:Int)
      have e4:=HV.out
      generalize valW B64 (vs.take j)=VJ at e4 ⊢
      generalize (p * q + z + c) % (B64:Int)=M at e3 ⊢
      generalize (p * q + z + c) / (B64:Int)=D at e3 ⊢
      rw [Int.mul_assoc,show (B64:Int) * D=p * q + z + c - M by omega,Int.mul_add p,Int.mul_add,← Int.mul_assoc p _ q,Int.mul_comm p ((B64:Int) ^ j),Int.mul_assoc _ p q,← Int.mul_assoc ((B64:Int) ^ i) ((B64:Int) ^ j),← Int.pow_add]
      rw [Int.mul_sub,Int.mul_sub,Int.mul_add,Int.mul_add]
      omega
     have HVN:=Lib.hid hvn
     have hzz:z=0 ∨ i + j < i + n2:=.inr (by omega)
     have HZN:∀ k y,i + n2 ≤ k → (rs.set (i + j) s2)[k]?=some y → y=0:=fun k y hk hy=>by
      rw [List.getElem?_set_ne (by omega)] at hy
      exact HZ.out k y hk hy
     have HZN2:=Lib.hid HZN
     have HS2:=Lib.hid hs20
     clear hvn HZN hs20 e1 e2 hz hq hzr hzz
     go_wp2_with (first
      | (go_at_call 242;refine (hM _).mono ?_;rintro e w5 ⟨rfl,rfl⟩)
      | simp only [hA1]
      | simp only [hA2])
     go_roundg (gk - 1)
     case rel=>exact ⟨j + 1,h + k1 + k2,rs.set (i + j) s2,congrArg (Value.int .i64) (by omega),rfl,by omega,g3,g4,by rw [List.length_set,HL.out],HO.out.set _ HS2.out,HVN.out,HZN2.out,HR.out.set (i + j) s2 (by rw [HL.out];exact hij),HU.out.setCell (Or.inl rfl) _⟩
     case measure=>omega
    ·have hje:j=n2:=by omega
     subst hje
     have q02:¬ (j:Int) < (j:Int):=by omega
     have hij:i + j < n1 + j:=by omega
     obtain ⟨z,hz⟩:∃ z,rs[i + j]?=some z:=⟨_,List.getElem?_eq_getElem (by rw [HL.out];exact hij)⟩
     have hz0:=HZ.out (i + j) z (Nat.le_refl _) hz
     have cz:=HR.out.cell hz
     have cf:=HR.out.frozen (i + j)
     have hvn:valW B64 (rs.set (i + j) c)=valW B64 (us.take (i + 1)) * valW B64 vs:=by
      have e4:=HV.out
      rw [valW_set B64 hz,hz0,Int.sub_zero,e4,HV0.out,valW_succ B64 HP.out,Int.add_mul,Int.mul_assoc,HN2.out,List.take_length]
     have HVN:=Lib.hid hvn
     have HZN:∀ k y,i + 1 + j ≤ k → (rs.set (i + j) c)[k]?=some y → y=0:=fun k y hk hy=>by
      rw [List.getElem?_set_ne (by omega)] at hy
      exact HZ.out k y (by omega) hy
     have HZN2:=Lib.hid HZN
     clear hvn HZN hz hz0
     go_wp2_with fail
     go_roundg (G - 1)
     case rel=>exact ⟨i + 1,rs.set (i + j) c,congrArg (Value.int .i64) (by omega),by omega,by rw [List.length_set,HL.out],HO.out.set _ ⟨c0,c1'⟩,HVN.out,HZN2.out,HR.out.set (i + j) c (by rw [HL.out];exact hij),HU.out.setCell (Or.inl rfl) _⟩
     case measure=>omega
  ·have hie:i=n1:=by omega
   subst hie
   have q0:¬ (i:Int) < (i:Int):=by omega
   have hfin:valW B64 rs0=((u * v:Nat):Int):=by rw [HV0.out,HN1.out,List.take_length];exact HUV.out
   have HT2:=Lib.hid (HT.out wr w1.heap.size (i + n2) rs0 HL0.out (by omega) hfin HO0.out HR0.out)
   clear hfin
   go_wp2_with (first | (go_at_call 244;refine HT2.out.mono ?_;rintro e w5 ⟨zv,rfl,hzv,hk5⟩) | fail)
   go_ret2
   have hke:Keeps w wr:=hk1.trans hkr
   exact ⟨zv,rfl,hzv.le hke.size,hke.trans hk5⟩

end Go.Proofs.YtpgcbmbnognieaaGreat
