/-
  ramageref01.Mul; Words, Less, Same, Is where they tell true.
-/
import Derived.Test.YtpgcbmbnognieaaGreatPNatM
namespace Go.Proofs.YtpgcbmbnognieaaGreat
set_option linter.unusedSimpArgs false
set_option linter.unusedVariables false
set_option maxHeartbeats 600000
open Go.RowKit

theorem int_at {w:World} {a:Option Addr} {ds:List Int} (h:IntsAt w a ds) (i:Nat) (hi:i < ds.length):∃ x b off,ds[i]?=some x ∧ a=some ⟨b,off,none⟩ ∧ w.cell? ⟨b,off + i,none⟩=some (.int .i64 x):=by
 obtain ⟨x,hx⟩:∃ x,ds[i]?=some x:=⟨_,List.getElem?_eq_getElem hi⟩
 obtain ⟨b,off,ha,hc⟩:=h i x hx
 exact ⟨x,b,off,hx,ha,hc⟩

theorem rowI_zero {w:World} {blk n:Nat} (h:w.ownsRow blk 3 1 (.slice (some ⟨blk,0,none⟩) n n) n (madeCells (Value.int .i64 0).cells (n * 1)).toList):RowI w blk (List.replicate n 0):=by
 have e:(madeCells (Value.int .i64 0).cells (n * 1)).toList=(List.replicate n (0:Int)).map (Value.int .i64):=by
  rw [List.map_replicate,Nat.mul_one]
  simp [madeCells,Value.cells,Nat.mod_one]
  rw [List.map_const',List.length_range]
 rw [e] at h
 exact (rowI_owns h).1

def Below81 (k:Nat) (rs:List Int):Prop:=∀ x ∈ rs,0 ≤ x ∧ x ≤ 81 * (k:Int)

set_option maxRecDepth 100000 in
set_option maxHeartbeats 1600000 in
theorem dmul_calls (a b:Option Addr) (ca cb u v:Nat) (w:World) (ha:IntsAt w a (natW 10 u)) (hb:IntsAt w b (natW 10 v)) (hu:(natW 10 u).length ≤ 10000) (hv:(natW 10 v).length ≤ 10000) :
  Calls Tryz.prog 75 #[.slice a (natW 10 u).length ca,.slice b (natW 10 v).length cb] w fun e w'=>DigOut w e w' (natW 10 (u * v)):=by
 obtain ⟨i0,hi,hz0,hz1,hz2⟩:=info_parts info_int
 obtain ⟨xs,hxs⟩:∃ xs,xs=natW 10 u:=⟨_,rfl⟩
 obtain ⟨ys,hys⟩:∃ ys,ys=natW 10 v:=⟨_,rfl⟩
 have hxd:∀ (i:Nat) (x:Int),xs[i]?=some x → 0 ≤ x ∧ x ≤ 9:=fun i x hx=>digit_range (v:=u) (by rw [← hxs];exact hx)
 have hyd:∀ (i:Nat) (x:Int),ys[i]?=some x → 0 ≤ x ∧ x ≤ 9:=fun i x hx=>digit_range (v:=v) (by rw [← hys];exact hx)
 have huv:valW 10 xs * valW 10 ys=((u * v:Nat):Int):=by rw [hxs,hys,valW_natW (by decide),valW_natW (by decide)];exact (Int.natCast_mul u v).symm
 have hlt:((u * v:Nat):Int) < ((10:Nat):Int) ^ (xs.length + ys.length + 1):=by
  have h1:=natW_lt (b:=10) (by decide) (show (natW 10 u).length ≤ xs.length by rw [hxs];exact Nat.le_refl _)
  have h2:=natW_lt (b:=10) (by decide) (show (natW 10 v).length ≤ ys.length by rw [hys];exact Nat.le_refl _)
  have h3:u * v < 10 ^ xs.length * 10 ^ ys.length:=Nat.mul_lt_mul'' h1 h2
  rw [← Nat.pow_add] at h3
  have h4:10 ^ (xs.length + ys.length) ≤ 10 ^ (xs.length + ys.length + 1):=Nat.pow_le_pow_right (by decide) (by omega)
  have e:((10 ^ (xs.length + ys.length + 1):Nat):Int)=((10:Nat):Int) ^ (xs.length + ys.length + 1):=Int.natCast_pow _ _
  omega
 have hX:IntsAt w a xs:=by rw [hxs];exact ha
 have hY:IntsAt w b ys:=by rw [hys];exact hb
 rw [← hxs] at hu ⊢
 rw [← hys] at hv ⊢
 clear hxs hys ha hb
 have hT:∀ (W:World) (lo:Nat) (la:Option Addr) (k:Nat) (os:List Int),RowV lo W la os → WordsOk 10 os → os.length=k → k ≤ 100000 → valW 10 os=((u * v:Nat):Int) → Calls Tryz.prog 142 #[.slice la k k] W fun e w'=>e=.returned (.slice la (natW 10 (u * v)).length k) ∧ RowV lo W la (natW 10 (u * v)) ∧ W=w':=fun W lo la k os hr ho hk h5 hv2=>trim_row la k k os W hr ho (by omega) hk (Nat.le_refl _) hv2
 obtain ⟨n1,hn1⟩:∃ n,n=xs.length:=⟨_,rfl⟩
 obtain ⟨n2,hn2⟩:∃ n,n=ys.length:=⟨_,rfl⟩
 rw [← hn1] at hu hlt ⊢
 rw [← hn2] at hv hlt ⊢
 have HN1:=Lib.hid hn1
 have HN2:=Lib.hid hn2
 have HX:=Lib.hid hX
 have HY:=Lib.hid hY
 have HXD:=Lib.hid hxd
 have HYD:=Lib.hid hyd
 have HUV:=Lib.hid huv
 have HLT:=Lib.hid hlt
 have HT:=Lib.hid hT
 have h2m:20001 ≤ maxLen:=by unfold maxLen;omega
 clear hn1 hn2 hX hY hxd hyd huv hlt hT
 go_enter Tryz.func75,Tryz.ntmps75
 go_wp2_with (first
  | (at_make;refine wpList_make_full _ rfl _ _ 38 rfl w.heap.size 3 i0 (.int .i64 0) 1 Tryz.underlying38 hi hz0 hz1 .i64 .i64 _ _ (n1 + n2 + 1) rfl rfl (by simp) (by simp) (by rw [hz2];omega) (by omega) (by simp) ?_;intro w2 hown2 hg2)
  | fail)
 have HR2:=Lib.hid (rowI_zero hown2)
 have hkk:Keeps w w2:=⟨hg2.os,hg2.tape,hg2.output,hg2.size,fun i hi=>hg2.block i hi (by simp)⟩
 have hszz:=hkk.size
 clear hown2 hg2
 go_wp2_with fail
 go_loopg [6,7] n1 (fun gk s6 s7 wr=>∃ (i:Nat) (rs:List Int),s6=.int .i64 (i:Int) ∧ i + gk=n1 ∧ rs.length=n1 + n2 + 1 ∧ Below81 i rs ∧ valW 10 rs=valW 10 (xs.take i) * valW 10 ys ∧ RowI wr w.heap.size rs ∧ Upd (fun k=>k=w.heap.size) w2 wr)
 case atStart=>exact ⟨0,List.replicate (n1 + n2 + 1) 0,rfl,by omega,by simp,fun x hx=>by rw [List.eq_of_mem_replicate hx];omega,by rw [valW_zeros,List.take_zero];show (0:Int)=0 * _;rw [Int.zero_mul],HR2.out,Upd.refl _ _⟩
 case round=>
  obtain ⟨i,rs0,rfl,hig,hrl0,hb0,hval0,hR0,hU0⟩:=hrel
  have HR0:=Lib.hid hR0
  have HU0:=Lib.hid hU0
  have HL0:=Lib.hid hrl0
  have HV0:=Lib.hid hval0
  have HB0:=Lib.hid hb0
  have HG0:=Lib.hid hig
  clear hR0 hU0 hrl0 hval0 hb0
  by_cases hi1:i < n1
  ·obtain ⟨p,hp⟩:∃ p,xs[i]?=some p:=⟨_,List.getElem?_eq_getElem (by rw [← HN1.out];exact hi1)⟩
   obtain ⟨hp0,hp1⟩:=HXD.out i p hp
   have q0:(i:Int) < (n1:Int):=by omega
   have HP:=Lib.hid hp
   obtain ⟨G,hG⟩:∃ G,G=gk:=⟨_,rfl⟩
   have hGi:1 ≤ G:=by omega
   rw [← hG] at HG0
   have HGG:=Lib.hid hG
   clear hp hig hG
   go_wp2_with fail
   obtain ⟨wo,hwo⟩:∃ W,W=wr:=⟨_,rfl⟩
   rw [← hwo] at HR0 HU0
   go_loopg [7] n2 (fun gk2 s7 wr2=>∃ (j:Nat) (rs:List Int),s7=.int .i64 (j:Int) ∧ j + gk2=n2 ∧ rs.length=n1 + n2 + 1 ∧ (∀ k x,rs[k]?=some x → 0 ≤ x ∧ x ≤ 81 * ((i:Int) + 1) ∧ (i + j ≤ k → x ≤ 81 * (i:Int))) ∧ valW 10 rs=valW 10 rs0 + ((10:Nat):Int) ^ i * (p * valW 10 (ys.take j)) ∧ RowI wr2 w.heap.size rs ∧ Upd (fun k=>k=w.heap.size) w2 wr2)
   case atStart=>exact ⟨0,rs0,rfl,by omega,HL0.out,fun k x hx=>by have:=HB0.out x (List.mem_of_getElem? hx);omega,by rw [List.take_zero];show _=_ + _ * (p * 0);rw [Int.mul_zero,Int.mul_zero,Int.add_zero],by rw [← hwo];exact HR0.out,by rw [← hwo];exact HU0.out⟩
   case round=>
    obtain ⟨j,rs,rfl,hjg,hrl,hbd,hval,hR,hU⟩:=hrel
    have HR:=Lib.hid hR
    have HU:=Lib.hid hU
    have HL:=Lib.hid hrl
    have HV:=Lib.hid hval
    have HBD:=Lib.hid hbd
    have HJ:=Lib.hid hjg
    clear hR hU hrl hval hbd hwo
    have hkr:Keeps w wr:=hkk.new HU.out (fun k hk=>by omega)
    have hrlt:=HR.out.lt
    by_cases hjn:j < n2
    ·obtain ⟨x,b1,o1,hx,ha1,hcx⟩:=int_at (HX.out.keeps hkr) i (by rw [← HN1.out];exact hi1)
     have hxp:x=p:=Option.some.inj (hx.symm.trans HP.out)
     subst hxp
     obtain ⟨y,b2,o2,hy,ha2,hcy⟩:=int_at (HY.out.keeps hkr) j (by rw [← HN2.out];exact hjn)
     subst ha1
     subst ha2
     obtain ⟨hy0,hy1⟩:=HYD.out j y hy
     have hb1:=lt_of_cell hcx
     have hb2:=lt_of_cell hcy
     have q02:(j:Int) < (n2:Int):=by omega
     have hij:i + j < n1 + n2 + 1:=by omega
     obtain ⟨z,hz⟩:∃ z,rs[i + j]?=some z:=⟨_,List.getElem?_eq_getElem (by rw [HL.out];exact hij)⟩
     obtain ⟨z0,z1,z2⟩:=HBD.out (i + j) z hz
     have z3:=z2 (Nat.le_refl _)
     have cz:=HR.out.cell hz
     have cf:=HR.out.frozen (i + j)
     obtain ⟨m,hm⟩:∃ m,m=x * y:=⟨_,rfl⟩
     have hm0:0 ≤ m:=by rw [hm];exact Int.mul_nonneg hp0 hy0
     have hm1:m ≤ 81:=by rw [hm];have:=Int.mul_le_mul hp1 hy1 hy0 (by omega:(0:Int) ≤ 9);omega
     have hvn:valW 10 (rs.set (i + j) (z + m))=valW 10 rs0 + ((10:Nat):Int) ^ i * (x * valW 10 (ys.take (j + 1))):=by
      rw [valW_set 10 hz,HV.out,valW_succ 10 hy,hm,show z + x * y - z=x * y by omega,Int.mul_add x,Int.mul_add,Int.pow_add]
      have e:((10:Nat):Int) ^ i * ((10:Nat):Int) ^ j * (x * y)=((10:Nat):Int) ^ i * (x * (((10:Nat):Int) ^ j * y)):=by
       rw [Int.mul_assoc,Int.mul_left_comm (((10:Nat):Int) ^ j) x y]
      omega
     have HVN:=Lib.hid hvn
     have hbn:∀ k x,(rs.set (i + j) (z + m))[k]?=some x → 0 ≤ x ∧ x ≤ 81 * ((i:Int) + 1) ∧ (i + (j + 1) ≤ k → x ≤ 81 * (i:Int)):=fun k x hx=>by
      by_cases hk:k=i + j
      ·subst hk
       rw [List.getElem?_set_self (by rw [HL.out];exact hij)] at hx
       have:=Option.some.inj hx
       omega
      ·rw [List.getElem?_set_ne (fun e=>hk e.symm)] at hx
       have:=HBD.out k x hx
       omega
     have HBN:=Lib.hid hbn
     have HM:=Lib.hid hm
     have w1:IntKind.i64.wrap (x * y)=m:=by rw [← hm];unfold IntKind.wrap;simp [IntKind.signed,IntKind.bits];omega
     have w2':IntKind.i64.wrap (z + m)=z + m:=by unfold IntKind.wrap;simp [IntKind.signed,IntKind.bits];omega
     clear hvn hbn hz hx hy hm z2 hjg
     go_wp2_with fail
     go_region
     go_wp2_with fail
     go_roundg (gk - 1)
     case rel=>exact ⟨j + 1,rs.set (i + j) (z + m),congrArg (Value.int .i64) (by omega),by have:=HJ.out;omega,by rw [List.length_set,HL.out],HBN.out,HVN.out,HR.out.set (i + j) (z + m) (by rw [HL.out];exact hij),Upd.setCell (Upd.drewN HU.out _) (Or.inl rfl) _⟩
     case measure=>have:=HJ.out;omega
    ·have hje:j=n2:=by omega
     subst hje
     have q02:¬ (j:Int) < (j:Int):=by omega
     have hvn:valW 10 rs=valW 10 (xs.take (i + 1)) * valW 10 ys:=by
      rw [HV.out,HV0.out,valW_succ 10 HP.out,Int.add_mul,Int.mul_assoc,HN2.out,List.take_length]
     have HVN:=Lib.hid hvn
     have hbn:Below81 (i + 1) rs:=fun x hx=>by
      obtain ⟨k,hk⟩:=List.mem_iff_getElem?.1 hx
      have:=HBD.out k x hk
      push_cast
      omega
     have HBN:=Lib.hid hbn
     clear hvn hbn hjg
     go_wp2_with fail
     go_roundg (G - 1)
     case rel=>exact ⟨i + 1,rs,congrArg (Value.int .i64) (by omega),by have:=HG0.out;omega,HL.out,HBN.out,HVN.out,HR.out,HU.out⟩
     case measure=>have:=HG0.out;have:=HGG.out;omega
  ·have hie:i=n1:=by omega
   subst hie
   have q0:¬ (i:Int) < (i:Int):=by omega
   have hv1:valW 10 rs0=((u * v:Nat):Int):=by rw [HV0.out,HN1.out,List.take_length];exact HUV.out
   have hv2:valW 10 (carB 10 rs0 0)=((u * v:Nat):Int):=by
    rw [carB_whole (by decide) (fun x hx=>(HB0.out x hx).1) (by rw [hv1,HL0.out];exact HLT.out),hv1]
   obtain ⟨R,hRe⟩:∃ R,R=carB 10 rs0 0:=⟨_,rfl⟩
   have hRl:R.length=i + n2 + 1:=by rw [hRe,carB_len,HL0.out]
   have hRo:WordsOk 10 R:=by rw [hRe];exact carB_ok (by decide) _ _
   have h00:rs0.take 0 ++ carB 10 (rs0.drop 0) 0=R:=by rw [hRe];rfl
   rw [← hRe] at hv2
   have H00:=Lib.hid h00
   have HRL:=Lib.hid hRl
   have HRO:=Lib.hid hRo
   have HV2:=Lib.hid hv2
   clear hv1 hv2 hRe hRl hRo h00 hig
   obtain ⟨K,hK⟩:∃ K,K=i + n2 + 1:=⟨_,rfl⟩
   have hKi:((i:Int) + (n2:Int) + 1)=(K:Int):=by omega
   have hK2:K ≤ 20001:=by omega
   rw [← hK] at HL0 HRL
   have HK:=Lib.hid hK
   clear hKi
   rw [← hK]
   clear hK
   go_wp2_with fail
   obtain ⟨wo,hwo⟩:∃ W,W=wr:=⟨_,rfl⟩
   rw [← hwo] at HR0 HU0
   go_loopg [8,9,10] K (fun gk2 s8 s9 s10 wr2=>∃ (k:Nat) (c:Int) (rs:List Int),s8=.int .i64 c ∧ s9=.int .i64 (k:Int) ∧ k + gk2=K ∧ 0 ≤ c ∧ c ≤ 1000000 ∧ rs.length=K ∧ rs.take k ++ carB 10 (rs0.drop k) c=R ∧ (∀ m,k ≤ m → rs[m]?=rs0[m]?) ∧ RowI wr2 w.heap.size rs ∧ Upd (fun k=>k=w.heap.size) w2 wr2)
   case atStart=>exact ⟨0,0,rs0,rfl,rfl,by omega,by omega,by omega,HL0.out,H00.out,fun m _=>rfl,by rw [← hwo];exact HR0.out,by rw [← hwo];exact HU0.out⟩
   case round=>
    obtain ⟨k,c,rs,rfl,rfl,hkg,c0,c1,hrl,hinv,hsm,hR,hU⟩:=hrel
    have HR:=Lib.hid hR
    have HU:=Lib.hid hU
    have HL:=Lib.hid hrl
    have HINV:=Lib.hid hinv
    have HSM:=Lib.hid hsm
    have HKG:=Lib.hid hkg
    clear hR hU hrl hinv hsm hwo
    have hrlt:=HR.out.lt
    by_cases hkK:k < K
    ·obtain ⟨z,hz⟩:∃ z,rs0[k]?=some z:=⟨_,List.getElem?_eq_getElem (by rw [HL0.out];exact hkK)⟩
     have hzb:=HB0.out z (List.mem_of_getElem? hz)
     have hz2:rs[k]?=some z:=by rw [HSM.out k (Nat.le_refl _)];exact hz
     have cz:=HR.out.cell hz2
     have cf:=HR.out.frozen k
     have HST:=Lib.hid (carB_step hz HINV.out)
     have q02:(k:Int) < (K:Int):=by omega
     have d0:0 ≤ z + c:=by omega
     have d1:z + c ≤ 2000000:=by omega
     obtain ⟨zb0,zb1⟩:=hzb
     clear hz hz2 hkg
     go_wp2_with fail
     go_roundg (gk - 1)
     case rel=>exact ⟨k + 1,(z + c) / 10,rs.set k ((z + c) % 10),rfl,congrArg (Value.int .i64) (by omega),by have:=HKG.out;omega,by omega,by omega,by rw [List.length_set,HL.out],by rw [wset_take (by rw [HL.out];exact hkK)];exact HST.out,fun m hm=>by rw [List.getElem?_set_ne (by omega)];exact HSM.out m (by omega),HR.out.set k _ (by rw [HL.out];exact hkK),HU.out.setCell (Or.inl rfl) _⟩
     case measure=>have:=HKG.out;omega
    ·have hke:k=K:=by omega
     have q02:¬ (k:Int) < (K:Int):=by omega
     have hfin:rs=R:=by
      have h1:=HINV.out
      rw [List.take_of_length_le (by rw [HL.out];omega),List.drop_of_length_le (by rw [HL0.out];omega)] at h1
      rw [← h1]
      show rs=rs ++ []
      rw [List.append_nil]
     have hrv:RowV w.heap.size wr (some ⟨w.heap.size,0,none⟩) rs:=fun _=>⟨_,rfl,Nat.le_refl _,HR.out⟩
     have HT2:=Lib.hid (HT.out wr w.heap.size _ K rs hrv (by rw [hfin];exact HRO.out) HL.out (by omega) (by rw [hfin];exact HV2.out))
     have hkr:Keeps w wr:=hkk.new HU.out (fun k hk=>by omega)
     clear hfin hrv hkg hke
     go_wp2_with (first | (go_at_call 142;refine HT2.out.mono ?_;rintro e w4 ⟨rfl,hr4,rfl⟩) | fail)
     go_ret
     exact ⟨_,K,rfl,hr4,hkr⟩

end Go.Proofs.YtpgcbmbnognieaaGreat
