/-
  slices.Sort at uint32, part 6: bits.Len, nextPowerOfTwo, xorshift.Next, breakPatternsOrdered.
-/
import Derived.Test.YtpgcbmbnognieaaGreatPSortA
import Derived.Lib.Tables
import Derived.Lib.BitFns
import Derived.OpenShut
import Derived.Laws.BitsAll
import Derived.Laws.Bits64b
import Derived.Sort.LotC
namespace Go.Proofs.YtpgcbmbnognieaaGreat
set_option maxRecDepth 1000000
set_option maxHeartbeats 8000000
set_option linter.unusedSimpArgs false
set_option linter.unusedVariables false
open Go.RowKit Go.Sort

theorem bitLen_lt:∀ (f x:Nat),x<2 ^ f→x<2 ^ Lib.bitLenAux f x
 | 0,x,h=>by simpa [Lib.bitLenAux] using h
 | f+1,x,h=>by
  unfold Lib.bitLenAux
  split
  ·omega
  ·have:=bitLen_lt f (x / 2) (by rw [Nat.pow_succ] at h;omega)
   rw [Nat.add_comm 1,Nat.pow_succ]
   omega

theorem bitLen_le:∀ (f x:Nat),0<x→2 ^ Lib.bitLenAux f x≤2*x
 | 0,x,h=>by simp [Lib.bitLenAux];omega
 | f+1,x,h=>by
  unfold Lib.bitLenAux
  split
  ·omega
  ·rw [Nat.add_comm 1,Nat.pow_succ]
   by_cases h2:x / 2=0
   ·rw [h2]
    have:Lib.bitLenAux f 0=0:=by cases f<;>simp [Lib.bitLenAux]
    rw [this]
    omega
   ·have:=bitLen_le f (x / 2) (by omega)
    omega

def LenIs (x:Int)(r:Nat):Prop:=r≤21∧x.toNat<2 ^ r∧2 ^ r≤2*x.toNat

theorem lenIs (x:Int)(h0:0<x)(h1:x≤1048576):LenIs x (Lib.bitLen x.toNat):=by
 have a:=bitLen_lt 64 x.toNat (by have:(2:Nat) ^ 64=18446744073709551616:=rfl;omega)
 have b:=bitLen_le 64 x.toNat (by omega)
 refine⟨Nat.le_of_not_lt fun h=>?_,a,b⟩
 have:2 ^ 22≤2 ^ Lib.bitLen x.toNat:=Nat.pow_le_pow_right (by decide) h
 have e:(2:Nat) ^ 22=4194304:=rfl
 have b':2 ^ Lib.bitLen x.toNat≤2*x.toNat:=b
 omega

theorem fin8 (k:Nat)(d:Int)(h0:0≤d)(h1:d≤255)(hk:k≤16):wrap64 ((k:Int)+wrap64 (Lib.len8 d))=((k+Lib.bitLen d.toNat:Nat):Int):=by
 rw [Lib.len8_of d h0 h1]
 have:=Lib.bitLen_le8' d h0 h1
 unfold wrap64
 omega

theorem fin0 (x:Int)(h0:0≤x)(h1:x≤255):wrap64 (wrap64 (Lib.len8 x))=(Lib.bitLen x.toNat:Int):=by
 rw [Lib.len8_of x h0 h1]
 have:=Lib.bitLen_le8' x h0 h1
 unfold wrap64
 omega

theorem fin256 (x:Int)(h0:256≤x)(h1:x≤65535):wrap64 (8+wrap64 (Lib.len8 (x / 256)))=(Lib.bitLen x.toNat:Int):=by
 rw [Lib.bitLen_shift8 x.toNat (by omega) (by omega),show x.toNat / 256=(x / 256).toNat by omega]
 exact fin8 8 (x / 256) (by omega) (by omega) (by decide)

theorem fin65536 (x:Int)(h0:65536≤x)(h1:x≤1048576):wrap64 (16+wrap64 (Lib.len8 (x / 65536)))=(Lib.bitLen x.toNat:Int):=by
 rw [Lib.bitLen_shift16 x.toNat (by omega) (by omega),show x.toNat / 65536=(x / 65536).toNat by omega]
 exact fin8 16 (x / 65536) (by omega) (by omega) (by decide)

theorem len64_a (x:Int)(w:World)(h0:0≤x)(h1:x≤255):Calls Tryz.prog 256 #[.int .u64 x] w fun e w'=>e=.returned (.int .i64 (Lib.bitLen x.toNat))∧w'=w:=by
 have t9:=Tryz.underlying9
 have g0:0≤x:=by omega
 have g1:x≤255:=by omega
 have F:=Lib.hid (fin0 x h0 h1)
 go_enter Tryz.func256,Tryz.ntmps256
 go_wp2
 all_goals go_ret
 all_goals exact⟨congrArg Ending.returned (congrArg (Value.int IntKind.i64) F.out),rfl⟩

theorem len64_b (x:Int)(w:World)(h0:256≤x)(h1:x≤65535):Calls Tryz.prog 256 #[.int .u64 x] w fun e w'=>e=.returned (.int .i64 (Lib.bitLen x.toNat))∧w'=w:=by
 have t9:=Tryz.underlying9
 have g0:0≤x / 256:=by omega
 have g1:x / 256≤255:=by omega
 have F:=Lib.hid (fin256 x h0 h1)
 go_enter Tryz.func256,Tryz.ntmps256
 go_wp2
 all_goals go_ret
 all_goals exact⟨congrArg Ending.returned (congrArg (Value.int IntKind.i64) F.out),rfl⟩

theorem len64_c (x:Int)(w:World)(h0:65536≤x)(h1:x≤1048576):Calls Tryz.prog 256 #[.int .u64 x] w fun e w'=>e=.returned (.int .i64 (Lib.bitLen x.toNat))∧w'=w:=by
 have t9:=Tryz.underlying9
 have g0:0≤x / 65536:=by omega
 have g1:x / 65536≤255:=by omega
 have F:=Lib.hid (fin65536 x h0 h1)
 go_enter Tryz.func256,Tryz.ntmps256
 go_wp2
 all_goals go_ret
 all_goals exact⟨congrArg Ending.returned (congrArg (Value.int IntKind.i64) F.out),rfl⟩

theorem len64_calls (x:Int)(w:World)(h0:0<x)(h1:x≤1048576):Calls Tryz.prog 256 #[.int .u64 x] w fun e w'=>e=.returned (.int .i64 (Lib.bitLen x.toNat))∧w'=w:=by
 by_cases c1:x≤255
 ·exact len64_a x w (by omega) c1
 ·by_cases c2:x≤65535
  ·exact len64_b x w (by omega) c2
  ·exact len64_c x w (by omega) h1

theorem len_calls (x:Int)(w:World)(h0:0<x)(h1:x≤1048576):Calls Tryz.prog 202 #[.int .u64 x] w fun e w'=>e=.returned (.int .i64 (Lib.bitLen x.toNat))∧w'=w:=by
 have HC:=Lib.hid (len64_calls x w h0 h1)
 go_enter Tryz.func202,Tryz.ntmps202
 go_wp2_with (go_at_call 256;refine HC.out.mono ?_;rintro e w' ⟨rfl,rfl⟩)
 go_ret
 exact⟨rfl,rfl⟩

theorem pow2_calls (x:Int)(w:World)(h0:0<x)(h1:x≤1048576):Calls Tryz.prog 282 #[.int .i64 x] w fun e w'=>e=.returned (.int .u64 (2 ^ Lib.bitLen x.toNat:Nat))∧w'=w:=by
 have HC:=Lib.hid (len_calls x w h0 h1)
 have hL:=lenIs x h0 h1
 obtain⟨r,hr⟩:∃ r,r=Lib.bitLen x.toNat:=⟨_,rfl⟩
 rw [← hr] at hL HC ⊢
 clear hr
 go_enter Tryz.func282,Tryz.ntmps282
 go_wp2_with (go_at_call 202;refine HC.out.mono ?_;rintro e w' ⟨rfl,rfl⟩)
 go_ret
 have hw:IntKind.u64.wrap ((2:Int) ^ min r 64)=((2 ^ r:Nat):Int):=by
  have h21:(2:Nat) ^ r≤2 ^ 21:=Nat.pow_le_pow_right (by decide) hL.1
  have e21:(2:Nat) ^ 21=2097152:=rfl
  have hp:((2 ^ r:Nat):Int)=(2:Int) ^ r:=by push_cast;rfl
  rw [Nat.min_eq_left (by have:=hL.1;omega),IntKind.wrap_u64,← hp]
  rw [e21] at h21
  clear hp
  generalize (2:Nat) ^ r=q at h21 ⊢
  omega
 exact⟨congrArg Ending.returned (congrArg (Value.int IntKind.u64) hw),rfl⟩

structure WordAt (w w':World)(sb:Nat)(n:Int):Prop where
 upd:Upd (fun k=>k=sb) w w'
 cell:w'.cell? ⟨sb,0,none⟩=some (.int .u64 n)
 free:w'.frozen? ⟨sb,0,none⟩=false

theorem wf_u64 {n:Int}(h:(Lit.int .u64 n).wf=true):0≤n∧n≤18446744073709551615:=by
 unfold Lit.wf at h
 simp only [Bool.and_eq_true,decide_eq_true_eq] at h
 exact h

theorem xs_calls (sb:Nat)(n:Int)(w:World)(hc:w.cell? ⟨sb,0,none⟩=some (.int .u64 n))(hf:w.frozen? ⟨sb,0,none⟩=false)(hn:0≤n)(hn2:n≤18446744073709551615) :
  Calls Tryz.prog 283 #[.pointer (some ⟨sb,0,none⟩)] w fun e w'=>∃ m:Int,e=.returned (.int .u64 m)∧0≤m∧m≤18446744073709551615∧WordAt w w' sb m:=by
 go_enter Tryz.func283,Tryz.ntmps283
 go_wp2_with fail
 go_region
 obtain⟨v1,hv1⟩:∃ v,v=bits BinOp.xor IntKind.u64 n (IntKind.u64.wrap (n*8192)):=⟨_,rfl⟩
 have bv1:0≤v1∧v1≤18446744073709551615:=by rw [hv1];exact wf_u64 (Go.wf_bits .xor .u64 _ _)
 rw [← hv1]
 obtain⟨w1,hw1⟩:∃ x,x=(w.setCell ⟨sb,0,none⟩ (.int .u64 v1)).drew:=⟨_,rfl⟩
 have k1:WordAt w w1 sb v1:=by
  rw [hw1]
  exact⟨((Upd.refl (fun k=>k=sb) w).setCell (p:=⟨sb,0,none⟩) (Or.inl rfl) _).drew,by simp [go_sem,hc],by show World.frozen? (w.setCell _ _) _=_;rw [World.frozen?_setCell];exact hf⟩
 rw [← hw1]
 clear hw1 hv1
 obtain⟨hn1,hm1⟩:=bv1
 have c1:=k1.cell
 have f1:=k1.free
 have K1:=Lib.hid k1
 clear k1
 go_wp2_with fail
 go_region
 obtain⟨v2,hv2⟩:∃ v,v=bits BinOp.xor IntKind.u64 v1 (v1 / 128):=⟨_,rfl⟩
 have bv2:0≤v2∧v2≤18446744073709551615:=by rw [hv2];exact wf_u64 (Go.wf_bits .xor .u64 _ _)
 rw [← hv2]
 obtain⟨w2,hw2⟩:∃ x,x=(w1.setCell ⟨sb,0,none⟩ (.int .u64 v2)).drew:=⟨_,rfl⟩
 have k2:WordAt w1 w2 sb v2:=by
  rw [hw2]
  exact⟨((Upd.refl (fun k=>k=sb) w1).setCell (p:=⟨sb,0,none⟩) (Or.inl rfl) _).drew,by simp [go_sem,c1],by show World.frozen? (w1.setCell _ _) _=_;rw [World.frozen?_setCell];exact f1⟩
 rw [← hw2]
 clear hw2 hv2
 obtain⟨hn2,hm2⟩:=bv2
 have c2:=k2.cell
 have f2:=k2.free
 have K2:=Lib.hid k2
 clear k2
 go_wp2_with fail
 go_region
 obtain⟨v3,hv3⟩:∃ v,v=bits BinOp.xor IntKind.u64 v2 (IntKind.u64.wrap (v2*131072)):=⟨_,rfl⟩
 have bv3:0≤v3∧v3≤18446744073709551615:=by rw [hv3];exact wf_u64 (Go.wf_bits .xor .u64 _ _)
 rw [← hv3]
 obtain⟨w3,hw3⟩:∃ x,x=(w2.setCell ⟨sb,0,none⟩ (.int .u64 v3)).drew:=⟨_,rfl⟩
 have k3:WordAt w2 w3 sb v3:=by
  rw [hw3]
  exact⟨((Upd.refl (fun k=>k=sb) w2).setCell (p:=⟨sb,0,none⟩) (Or.inl rfl) _).drew,by simp [go_sem,c2],by show World.frozen? (w2.setCell _ _) _=_;rw [World.frozen?_setCell];exact f2⟩
 rw [← hw3]
 clear hw3 hv3
 obtain⟨hn3,hm3⟩:=bv3
 have c3:=k3.cell
 have f3:=k3.free
 have K3:=Lib.hid k3
 clear k3
 go_wp2
 go_ret
 exact⟨v3,rfl,hn3,hm3,(K1.out.upd.trans' K2.out.upd).trans' K3.out.upd,c3,f3⟩

theorem and_range (m:Int)(c:Nat)(h0:0≤m)(h1:m≤18446744073709551615)(hc:c<18446744073709551616):0≤bits BinOp.and IntKind.u64 m (c:Int)∧bits BinOp.and IntKind.u64 m (c:Int)≤(c:Int):=by
 obtain⟨k,rfl⟩:=Int.eq_ofNat_of_zero_le h0
 rw [bits_and_u64_nat k c (by omega) hc]
 have:=Nat.and_le_right (n:=k) (m:=c)
 omega

theorem break_calls (blk cap len a b:Nat)(d:Array Int)(w:World)(hr:RowAt w blk cap d)(hl:d.size=len)(hab:a+13≤b)(hb:b≤len)(hsz:len≤1048576) :
  Calls Tryz.prog 248 #[.slice (some ⟨blk,0,none⟩) len cap,.int .i64 a,.int .i64 b] w fun e w'=>
   e=.returned (.tuple #[])∧∃ d',PermIn a b d d'∧SRow w w' blk cap d':=by
 have hne:blk≠w.heap.size:=by have:=hr.lt;omega
 obtain⟨q,hq⟩:∃ q:Nat,q=(b-a) / 4:=⟨_,rfl⟩
 have q1:3≤q:=by omega
 have q2:4*q≤b-a:=by omega
 have hqi:((b:Int)-(a:Int)) / 4=(q:Int):=by omega
 have h8:(8:Int)≤(b:Int)-(a:Int):=by omega
 have hL:=lenIs ((b:Int)-(a:Int)) (by omega) (by omega)
 have HP:=Lib.hid (fun W=>pow2_calls ((b:Int)-(a:Int)) W (by omega) (by omega))
 obtain⟨r,hr'⟩:∃ r,r=Lib.bitLen ((b:Int)-(a:Int)).toNat:=⟨_,rfl⟩
 rw [← hr'] at hL HP
 clear hr'
 obtain⟨md,hmd⟩:∃ md:Nat,md=2 ^ r:=⟨_,rfl⟩
 rw [← hmd] at HP
 have m1:md≤2*(b-a):=by have:=hL.2.2;rw [← hmd] at this;omega
 have m2:b-a<md:=by have:=hL.2.1;rw [← hmd] at this;omega
 clear hL hmd
 have HQ:=Lib.hid hq
 have HR:=Lib.hid hr
 have HL:=Lib.hid hl
 clear hq hr hl
 go_enter Tryz.func248,Tryz.ntmps248
 go_wp2_with (go_at_call 282;refine(HP.out _).mono ?_;rintro e w' ⟨rfl,rfl⟩)
 have hI0:RowAt (w.alloc (.cells #[.int .u64 ((b:Int)-(a:Int))] 330)) blk cap d:=HR.out.keep (G:=fun _=>False) ((Upd.refl _ w).alloc _) (fun h=>h)
 have HQI:=Lib.hid hqi
 clear hqi
 go_loopg [9] 3 (fun gk vi wr=>∃ (x:Nat) (dk:Array Int) (v:Int),x+gk=a+2*q+2∧a+2*q≤x+1∧vi=.int .i64 (x:Int)∧PermIn a b d dk∧SRow w wr blk cap dk∧wr.cell? ⟨w.heap.size,0,none⟩=some (.int .u64 v)∧wr.frozen? ⟨w.heap.size,0,none⟩=false∧0≤v∧v≤18446744073709551615∧w.heap.size<wr.heap.size)
 case atStart=>exact⟨a+2*q-1,d,(b:Int)-(a:Int),by omega,by omega,by congr 1;omega,permIn_refl _ _ _,⟨(Upd.refl _ w).alloc _,hI0⟩,by simp [go_sem],by simp [go_sem],by omega,by omega,by simp⟩
 case round=>
  obtain⟨x,dk,v,hgk,hx1,rfl,hPm,hS,hc,hf,hv0,hv1,hsb⟩:=hrel
  have hsk:dk.size=len:=hPm.1.trans HL.out
  have HS:=Lib.hid hS
  have HPm:=Lib.hid hPm
  have HK:=Lib.hid hsk
  clear hS hPm hsk
  by_cases hxl:x≤a+2*q+1
  ·have e1:(x:Int)≤(a:Int)+((b:Int)-(a:Int)) / 4*2+1:=by rw [HQI.out];omega
   have HX:=Lib.hid (xs_calls w.heap.size v wr hc hf hv0 hv1)
   clear hc hf
   go_wp2_with fail
   refine HX.out.mono ?_
   rintro e w1 ⟨m,rfl,hm0,hm1,hW⟩
   have hnb:¬w.heap.size=blk:=fun h=>hne h.symm
   have hS1:SRow w w1 blk cap dk:=⟨⟨hW.upd.os.trans HS.out.upd.os,hW.upd.tape.trans HS.out.upd.tape,hW.upd.output.trans HS.out.upd.output,Nat.le_trans HS.out.upd.size hW.upd.size,fun k hk hk2=>by
    rw [hW.upd.block k (Nat.lt_of_lt_of_le hk HS.out.upd.size) (by omega),HS.out.upd.block k hk hk2]⟩,HS.out.row.keep hW.upd hne⟩
   have hsb1:w.heap.size<w1.heap.size:=Nat.lt_of_lt_of_le hsb hW.upd.size
   have hcw:∀ (y z:Nat) (u1 u2:Value) (n:Nat),(((w1.drewN n).setCell ⟨blk,y,none⟩ u1).setCell ⟨blk,z,none⟩ u2).cell? ⟨w.heap.size,0,none⟩=some (.int .u64 m)∧(((w1.drewN n).setCell ⟨blk,y,none⟩ u1).setCell ⟨blk,z,none⟩ u2).frozen? ⟨w.heap.size,0,none⟩=false:=by
    intro y z u1 u2 n
    refine⟨?_,?_⟩
    ·simp [go_sem,hnb,hne,hW.cell]
    ·rw [World.frozen?_setCell,World.frozen?_setCell]
     exact hW.free
   have HS1:=Lib.hid hS1
   have HCW:=Lib.hid hcw
   clear hS1 hcw hW
   have hor:=and_range m (md-1) hm0 hm1 (by omega)
   obtain⟨o,ho⟩:=Int.eq_ofNat_of_zero_le hor.1
   have ho2:o≤md-1:=by have:=hor.2;rw [ho] at this;omega
   rw [show((md-1:Nat):Int)=(md:Int)-1 by omega] at ho
   clear hor
   obtain⟨g,hg⟩:∃ g:Nat→Int,∀ t,g t=dk[t]!:=⟨fun t=>dk[t]!,fun _=>rfl⟩
   have HG:=Lib.hid hg
   clear hg
   have c1:w1.cell? ⟨blk,x,none⟩=some (.int .u32 (g x)):=by rw [HG.out];exact HS1.out.row.cell x (by rw [HK.out];omega)
   have f1:w1.frozen? ⟨blk,x,none⟩=false:=HS1.out.row.frozen x
   have rx:(x:Int)<(len:Int):=by omega
   by_cases hol:b-a≤o
   ·obtain⟨t,ht⟩:∃ t:Nat,t=o-(b-a):=⟨_,rfl⟩
    have et:(o:Int)-((b:Int)-(a:Int))=(t:Int):=by omega
    have e2:(b:Int)-(a:Int)≤(o:Int):=by omega
    have htb:a+t<b:=by omega
    clear ht
    have HSw:=fun n=>HS1.out.swap n x (a+t) (by rw [HK.out];omega) (by rw [HK.out];omega)
    rw [← HG.out,← HG.out] at HSw
    have HSW:Hid (∀ n,SRow w (((w1.drewN n).setCell ⟨blk,x,none⟩ (.int .u32 (g (a+t)))).setCell ⟨blk,a+t,none⟩ (.int .u32 (g x))) blk cap (swp dk x (a+t))):=Lib.hid HSw
    clear HSw
    go_wp2_with fail
    by_cases hxe:x=a+t
    ·skip
     subst hxe
     have rw0:IntKind.i64.wrap ((a:Int)+(t:Int))=(a:Int)+(t:Int):=IntWalk.i64_in _ ⟨by omega,by omega⟩
     have r1:((a:Int)+(t:Int)).toNat=a+t:=by omega
     have r2:(0:Int)≤(a:Int)+(t:Int):=by omega
     have r3:(a:Int)+(t:Int)<(len:Int):=by omega
     go_region
     clear rw0 r1 r2 r3 c1 f1
     go_wp2
     go_roundg (gk-1)
     case rel=>exact⟨a+t+1,_,m,by omega,by omega,by first|rfl|go_num,permIn_trans _ _ _ _ _ HPm.out (swp_permIn dk a b (a+t) (a+t) (by omega) (by omega) (by omega) (by omega) (by rw [HK.out];exact hb)),HSW.out 1,(HCW.out _ _ _ _ 1).1,(HCW.out _ _ _ _ 1).2,hm0,hm1,by simp only [World.size_drew,World.size_setCell];exact hsb1⟩
     case measure=>omega
    ·skip
     have n1:¬a+t=x:=by omega
     have n2:¬x=a+t:=by omega
     have c2:w1.cell? ⟨blk,a+t,none⟩=some (.int .u32 (g (a+t))):=by rw [HG.out];exact HS1.out.row.cell (a+t) (by rw [HK.out];omega)
     have f2:w1.frozen? ⟨blk,a+t,none⟩=false:=HS1.out.row.frozen (a+t)
     have r1:((a:Int)+(t:Int)).toNat=a+t:=by omega
     have r2:(0:Int)≤(a:Int)+(t:Int):=by omega
     have r3:(a:Int)+(t:Int)<(len:Int):=by omega
     have rw0:IntKind.i64.wrap ((a:Int)+(t:Int))=(a:Int)+(t:Int):=IntWalk.i64_in _ ⟨by omega,by omega⟩
     go_region
     clear rw0 n1 n2 c2 f2 r1 r2 r3 c1 f1
     go_wp2
     go_roundg (gk-1)
     case rel=>exact⟨x+1,_,m,by omega,by omega,by first|rfl|go_num,permIn_trans _ _ _ _ _ HPm.out (swp_permIn dk a b x (a+t) (by omega) (by omega) (by omega) (by omega) (by rw [HK.out];exact hb)),HSW.out 1,(HCW.out _ _ _ _ 1).1,(HCW.out _ _ _ _ 1).2,hm0,hm1,by simp only [World.size_drew,World.size_setCell];exact hsb1⟩
     case measure=>omega
   ·obtain⟨t,ht⟩:∃ t:Nat,t=o:=⟨_,rfl⟩
    subst ht
    have e2:¬(b:Int)-(a:Int)≤(t:Int):=by omega
    have htb:a+t<b:=by omega
    have HSw:=fun n=>HS1.out.swap n x (a+t) (by rw [HK.out];omega) (by rw [HK.out];omega)
    rw [← HG.out,← HG.out] at HSw
    have HSW:Hid (∀ n,SRow w (((w1.drewN n).setCell ⟨blk,x,none⟩ (.int .u32 (g (a+t)))).setCell ⟨blk,a+t,none⟩ (.int .u32 (g x))) blk cap (swp dk x (a+t))):=Lib.hid HSw
    clear HSw
    go_wp2_with fail
    by_cases hxe:x=a+t
    ·skip
     subst hxe
     have rw0:IntKind.i64.wrap ((a:Int)+(t:Int))=(a:Int)+(t:Int):=IntWalk.i64_in _ ⟨by omega,by omega⟩
     have r1:((a:Int)+(t:Int)).toNat=a+t:=by omega
     have r2:(0:Int)≤(a:Int)+(t:Int):=by omega
     have r3:(a:Int)+(t:Int)<(len:Int):=by omega
     go_region
     clear rw0 r1 r2 r3 c1 f1
     go_wp2
     go_roundg (gk-1)
     case rel=>exact⟨a+t+1,_,m,by omega,by omega,by first|rfl|go_num,permIn_trans _ _ _ _ _ HPm.out (swp_permIn dk a b (a+t) (a+t) (by omega) (by omega) (by omega) (by omega) (by rw [HK.out];exact hb)),HSW.out 1,(HCW.out _ _ _ _ 1).1,(HCW.out _ _ _ _ 1).2,hm0,hm1,by simp only [World.size_drew,World.size_setCell];exact hsb1⟩
     case measure=>omega
    ·skip
     have n1:¬a+t=x:=by omega
     have n2:¬x=a+t:=by omega
     have c2:w1.cell? ⟨blk,a+t,none⟩=some (.int .u32 (g (a+t))):=by rw [HG.out];exact HS1.out.row.cell (a+t) (by rw [HK.out];omega)
     have f2:w1.frozen? ⟨blk,a+t,none⟩=false:=HS1.out.row.frozen (a+t)
     have r1:((a:Int)+(t:Int)).toNat=a+t:=by omega
     have r2:(0:Int)≤(a:Int)+(t:Int):=by omega
     have r3:(a:Int)+(t:Int)<(len:Int):=by omega
     have rw0:IntKind.i64.wrap ((a:Int)+(t:Int))=(a:Int)+(t:Int):=IntWalk.i64_in _ ⟨by omega,by omega⟩
     go_region
     clear rw0 n1 n2 c2 f2 r1 r2 r3 c1 f1
     go_wp2
     go_roundg (gk-1)
     case rel=>exact⟨x+1,_,m,by omega,by omega,by first|rfl|go_num,permIn_trans _ _ _ _ _ HPm.out (swp_permIn dk a b x (a+t) (by omega) (by omega) (by omega) (by omega) (by rw [HK.out];exact hb)),HSW.out 1,(HCW.out _ _ _ _ 1).1,(HCW.out _ _ _ _ 1).2,hm0,hm1,by simp only [World.size_drew,World.size_setCell];exact hsb1⟩
     case measure=>omega
  ·have e1:¬(x:Int)≤(a:Int)+((b:Int)-(a:Int)) / 4*2+1:=by rw [HQI.out];omega
   go_wp2
   first|go_end0|refine bodyPost_ret (results_none rfl _ _ _) rfl ?_
   exact⟨rfl,dk,HPm.out,HS.out⟩

theorem up_go (p:Int→Bool)(d:Array Int)(j i:Nat)(h:i≤j)(hp:p d[i]! = true):scanUp p d j (i+1) = scanUp p d j i:=by
 rw [scanUp.eq_1 p d j i,if_pos (by simp [h,hp])]
theorem up_end (p:Int→Bool)(d:Array Int)(j i:Nat)(h:¬i≤j∨p d[i]! = false):scanUp p d j i = i:=by
 rw [scanUp,if_neg (by rcases h with h|h<;>simp [h])]
theorem down_go (p:Int→Bool)(d:Array Int)(i j:Nat)(h:i≤j)(h0:0<j)(hp:p d[j]! = true):scanDown p d i (j-1) = scanDown p d i j:=by
 obtain⟨k,rfl⟩:∃ k,j=k+1:=⟨j-1,by omega⟩
 rw [scanDown,if_pos (by simp [h,hp])]
 rfl
theorem down_end (p:Int→Bool)(d:Array Int)(i j:Nat)(h:¬i≤j∨p d[j]! = false):scanDown p d i j = j:=by
 cases j with
 | zero=>rfl
 | succ k=>rw [scanDown,if_neg (by rcases h with h|h<;>simp [h])]

theorem peq_break (a i j:Nat)(dk:Array Int){i2 j2:Nat}(hi2:scanUp (fun x=>!ltInt dk[a]! x) dk j i=i2)(hj2:scanDown (fun x=>ltInt dk[a]! x) dk i2 j=j2)(h:j2<i2):partEqLoop ltInt a i j dk=(i2,dk):=by
 subst hi2;subst hj2
 rw [partEqLoop_eq,if_pos h]
theorem peq_go (a i j:Nat)(dk:Array Int){i2 j2:Nat}(hi2:scanUp (fun x=>!ltInt dk[a]! x) dk j i=i2)(hj2:scanDown (fun x=>ltInt dk[a]! x) dk i2 j=j2)(h:¬i2 > j2):partEqLoop ltInt a (i2+1) (j2-1) (swp dk i2 j2)=partEqLoop ltInt a i j dk:=by
 subst hi2;subst hj2
 rw [partEqLoop_eq ltInt a i j,if_neg h]

theorem peq_calls (blk cap len a b pv:Nat)(d:Array Int)(w:World)(hr:RowAt w blk cap d)(hl:d.size=len)(hap:a≤pv)(hpb:pv<b)(hb:b≤len)(hsz:len≤1048576) :
  Calls Tryz.prog 253 #[.slice (some ⟨blk,0,none⟩) len cap,.int .i64 a,.int .i64 b,.int .i64 pv] w fun e w'=>
   e=.returned (.int .i64 (partitionEqual ltInt d a b pv).1)∧SRow w w' blk cap (partitionEqual ltInt d a b pv).2:=by
 have hS0:=SRow.self hr
 have HSw:=fun n=>hS0.swap n a pv (by omega) (by omega)
 obtain⟨g,hg⟩:∃ g:Nat→Int,∀ t,g t=d[t]!:=⟨fun t=>d[t]!,fun _=>rfl⟩
 rw [← hg,← hg] at HSw
 have HSW:=Lib.hid HSw
 have HSZ:Hid ((swp d a pv).size=len):=Lib.hid (by rw [size_swp];exact hl)
 have c1:w.cell? ⟨blk,a,none⟩=some (.int .u32 (g a)):=by rw [hg];exact hr.cell a (by omega)
 have c2:w.cell? ⟨blk,pv,none⟩=some (.int .u32 (g pv)):=by rw [hg];exact hr.cell pv (by omega)
 have f1:w.frozen? ⟨blk,a,none⟩=false:=hr.frozen a
 have f2:w.frozen? ⟨blk,pv,none⟩=false:=hr.frozen pv
 have r1:(a:Int)<(len:Int):=by omega
 have r2:(pv:Int)<(len:Int):=by omega
 have HE:Hid (partitionEqual ltInt d a b pv=partEqLoop ltInt a (a+1) (b-1) (swp d a pv)):=Lib.hid rfl
 obtain⟨R,hR⟩:∃ R,partitionEqual ltInt d a b pv=R:=⟨_,rfl⟩
 rw [hR]
 rw [hR] at HE
 clear HSw hg hR hS0 hr hl
 go_enter Tryz.func253,Tryz.ntmps253
 go_upto_region 1 with fail
 go_cut [] (fun wx=>SRow w wx blk cap (swp d a pv))
 case first=>
  by_cases hpa:pv=a
  ·subst hpa
   go_region
   all_goals go_wp2_with fail
   all_goals go_meet
   all_goals exact HSW.out 1
  ·have n1:¬a=pv:=by omega
   go_region
   all_goals go_wp2_with fail
   all_goals go_meet
   all_goals exact HSW.out 1
 case rest=>
  clear c1 c2 f1 f2
  have hS1:=hcut
  clear hcut
  go_wp2_with fail
  go_loopg [9,10] (b+1) (fun gk vi vj wr=>∃ (i j:Nat) (dk:Array Int),j+1-i≤gk∧vi=.int .i64 (i:Int)∧vj=.int .i64 (j:Int)∧a<i∧i≤j+1∧j<b∧dk.size=len∧SRow w wr blk cap dk∧R=partEqLoop ltInt a i j dk)
  case atStart=>exact⟨a+1,b-1,_,by omega,by go_num,by congr 1;omega,by omega,by omega,by omega,HSZ.out,hS1,HE.out⟩
  case round=>
   obtain⟨i,j,dk,hgk,rfl,rfl,hai,hij,hjb,hsk,hS,hO⟩:=hrel
   have HS:=Lib.hid hS
   have HO:=Lib.hid hO
   have HK:=Lib.hid hsk
   obtain⟨gko,rfl⟩:∃ x:Nat,x=gk:=⟨_,rfl⟩
   obtain⟨wo,rfl⟩:∃ x:World,x=wr:=⟨_,rfl⟩
   obtain⟨h,hh⟩:∃ h:Nat→Int,∀ t,h t=dk[t]!:=⟨fun t=>dk[t]!,fun _=>rfl⟩
   have HG:=Lib.hid hh
   clear hS hO hsk hS1 hh
   have r3:(i:Int)≤(j:Int)+1:=by omega
   go_wp2_with fail
   go_loopg [9] (j+1) (fun gu vi wr2=>∃ i':Nat,j+1-i'≤gu∧vi=.int .i64 (i':Int)∧i≤i'∧i'≤j+1∧SRow w wr2 blk cap dk∧scanUp (fun x=>!ltInt dk[a]! x) dk j i'=scanUp (fun x=>!ltInt dk[a]! x) dk j i)
   case atStart=>exact⟨i,by omega,rfl,by omega,hij,HS.out,rfl⟩
   case round=>
    obtain⟨i',hgu,rfl,hii,hij',hS2,hsc⟩:=hrel
    have HS2:=Lib.hid hS2
    have HSC:=Lib.hid hsc
    clear hS2 hsc
    have ca:wr.cell? ⟨blk,a,none⟩=some (.int .u32 (h a)):=by rw [HG.out];exact HS2.out.row.cell a (by rw [HK.out];omega)
    by_cases hle:i'≤j
    ·have ci:wr.cell? ⟨blk,i',none⟩=some (.int .u32 (h i')):=by rw [HG.out];exact HS2.out.row.cell i' (by rw [HK.out];omega)
     have r4:(i':Int)<(len:Int):=by omega
     have r5:(i':Int)≤(j:Int):=by omega
     rcases bool_cases' (ltInt (h a) (h i')) with hb1|hb1
     ·have HN:Hid (scanUp (fun x=>!ltInt dk[a]! x) dk j (i'+1)=scanUp (fun x=>!ltInt dk[a]! x) dk j i):=Lib.hid (by rw [← HSC.out];exact up_go _ dk j i' hle (by rw [← HG.out,← HG.out,hb1];rfl))
      go_wp2_with fail
      go_quiet ((go_at_call 252;exact Calls.quiet_of_same (less_calls _ _ _)))
      go_wp2
      go_roundg (gk-1)
      case rel=>exact⟨i'+1,by omega,by go_num,by omega,by omega,HS2.out.drewN nq,HN.out⟩
      case measure=>omega
     ·have HI2:Hid (scanUp (fun x=>!ltInt dk[a]! x) dk j i=i'):=Lib.hid (by rw [← HSC.out];exact up_end _ dk j i' (Or.inr (by rw [← HG.out,← HG.out,hb1];rfl)))
      go_wp2_with fail
      go_quiet ((go_at_call 252;exact Calls.quiet_of_same (less_calls _ _ _)))
      go_wp2
      have HS3:=Lib.hid (HS2.out.drewN nq)
      have HB1:=Lib.hid hb1
      clear ca ci HS2 HSC hb1
      go_loopg [10] (j+1) (fun gu vj wr2=>∃ j':Nat,j'≤gu∧vj=.int .i64 (j':Int)∧j'≤j∧i'≤j'+1∧SRow w wr2 blk cap dk∧scanDown (fun x=>ltInt dk[a]! x) dk i' j'=scanDown (fun x=>ltInt dk[a]! x) dk i' j)
      case atStart=>exact⟨j,by omega,rfl,by omega,hij',HS3.out,rfl⟩
      case round=>
       obtain⟨j',hgu2,rfl,hjj,hij2,hS2,hsd⟩:=hrel
       have HS2:=Lib.hid hS2
       have HSD:=Lib.hid hsd
       clear hS2 hsd
       have ca:wr.cell? ⟨blk,a,none⟩=some (.int .u32 (h a)):=by rw [HG.out];exact HS2.out.row.cell a (by rw [HK.out];omega)
       by_cases hle2:i'≤j'
       ·have cj:wr.cell? ⟨blk,j',none⟩=some (.int .u32 (h j')):=by rw [HG.out];exact HS2.out.row.cell j' (by rw [HK.out];omega)
        have r6:(j':Int)<(len:Int):=by omega
        have r7:(i':Int)≤(j':Int):=by omega
        rcases bool_cases' (ltInt (h a) (h j')) with hb2|hb2
        ·have HJ2:Hid (scanDown (fun x=>ltInt dk[a]! x) dk i' j=j'):=Lib.hid (by rw [← HSD.out];exact down_end _ dk i' j' (Or.inr (by rw [← HG.out,← HG.out];exact hb2)))
         have nij:¬j'=i':=fun e=>by have h1:=HB1.out;rw [← e,hb2] at h1;cases h1
         have n2:¬i'=j':=fun e=>nij e.symm
         have ci:wr.cell? ⟨blk,i',none⟩=some (.int .u32 (h i')):=by rw [HG.out];exact HS2.out.row.cell i' (by rw [HK.out];omega)
         have fi:wr.frozen? ⟨blk,i',none⟩=false:=HS2.out.row.frozen i'
         have fj:wr.frozen? ⟨blk,j',none⟩=false:=HS2.out.row.frozen j'
         have r8:(i':Int)<(len:Int):=by omega
         have r9:¬(j':Int)<(i':Int):=by omega
         have HSw:=fun n=>HS2.out.swap n i' j' (by rw [HK.out];omega) (by rw [HK.out];omega)
         rw [← HG.out,← HG.out] at HSw
         have HSW2:=Lib.hid HSw
         have HE2:Hid (R=partEqLoop ltInt a (i'+1) (j'-1) (swp dk i' j')):=Lib.hid (by rw [peq_go a i j dk HI2.out HJ2.out (by omega)];exact HO.out)
         clear HSw
         go_wp2_with fail
         go_quiet ((go_at_call 252;exact Calls.quiet_of_same (less_calls _ _ _)))
         go_wp2
         go_region
         all_goals go_wp2
         go_roundg (gko-1)
         case rel=>exact⟨i'+1,j'-1,_,by omega,by go_num,by congr 1;omega,by omega,by omega,by omega,by rw [size_swp];exact HK.out,HSW2.out (nq+1),HE2.out⟩
         case measure=>omega
        ·have HN:Hid (scanDown (fun x=>ltInt dk[a]! x) dk i' (j'-1)=scanDown (fun x=>ltInt dk[a]! x) dk i' j):=Lib.hid (by rw [← HSD.out];exact down_go _ dk i' j' hle2 (by omega) (by rw [← HG.out,← HG.out];exact hb2))
         go_wp2_with fail
         go_quiet ((go_at_call 252;exact Calls.quiet_of_same (less_calls _ _ _)))
         go_wp2
         go_roundg (gk-1)
         case rel=>exact⟨j'-1,by omega,by congr 1;omega,by omega,by omega,HS2.out.drewN nq,HN.out⟩
         case measure=>omega
       ·have HJ2:Hid (scanDown (fun x=>ltInt dk[a]! x) dk i' j=j'):=Lib.hid (by rw [← HSD.out];exact down_end _ dk i' j' (Or.inl hle2))
        have r7:decide ((i':Int)≤(j':Int))=false:=decide_eq_false (by omega)
        have r8:(j':Int)<(i':Int):=by omega
        go_wp2_with fail
        go_quiet ((go_at_call 252;exact Calls.quiet_of_same (less_calls _ _ _)))
        go_wp2
        go_ret
        have e:=peq_break a i j dk HI2.out HJ2.out (by omega)
        rw [HO.out,e]
        exact⟨rfl,HS2.out.drewN _⟩
    ·have HI2:Hid (scanUp (fun x=>!ltInt dk[a]! x) dk j i=i'):=Lib.hid (by rw [← HSC.out];exact up_end _ dk j i' (Or.inl hle))
     have r5:decide ((i':Int)≤(j:Int))=false:=decide_eq_false (by omega)
     go_wp2_with fail
     go_quiet ((go_at_call 252;exact Calls.quiet_of_same (less_calls _ _ _)))
     go_wp2
     have HS3:=Lib.hid (HS2.out.drewN nq)
     clear ca HS2 HSC r5
     go_loopg [10] (j+1) (fun gu vj wr2=>∃ j':Nat,j'≤gu∧vj=.int .i64 (j':Int)∧j'≤j∧i'≤j'+1∧SRow w wr2 blk cap dk∧scanDown (fun x=>ltInt dk[a]! x) dk i' j'=scanDown (fun x=>ltInt dk[a]! x) dk i' j)
     case atStart=>exact⟨j,by omega,rfl,by omega,hij',HS3.out,rfl⟩
     case round=>
      obtain⟨j',hgu2,rfl,hjj,hij2,hS2,hsd⟩:=hrel
      have HS2:=Lib.hid hS2
      have HSD:=Lib.hid hsd
      clear hS2 hsd
      have ca:wr.cell? ⟨blk,a,none⟩=some (.int .u32 (h a)):=by rw [HG.out];exact HS2.out.row.cell a (by rw [HK.out];omega)
      by_cases hle2:i'≤j'
      ·exfalso;omega
      ·have HJ2:Hid (scanDown (fun x=>ltInt dk[a]! x) dk i' j=j'):=Lib.hid (by rw [← HSD.out];exact down_end _ dk i' j' (Or.inl hle2))
       have r7:decide ((i':Int)≤(j':Int))=false:=decide_eq_false (by omega)
       have r8:(j':Int)<(i':Int):=by omega
       go_wp2_with fail
       go_quiet ((go_at_call 252;exact Calls.quiet_of_same (less_calls _ _ _)))
       go_wp2
       go_ret
       have e:=peq_break a i j dk HI2.out HJ2.out (by omega)
       rw [HO.out,e]
       exact⟨rfl,HS2.out.drewN _⟩

def pfin (a:Nat)(r:Nat×Array Int):Nat×Bool×Array Int:=(r.1,false,swp r.2 r.1 a)

theorem part_done (d:Array Int)(a b pv:Nat){dk:Array Int}{i j i2 j2:Nat}(hd:dk=swp d a pv)(hi:i=a+1)(hj:j=b-1)(hi2:scanUp (fun x=>ltInt x dk[a]!) dk j i=i2)(hj2:scanDown (fun x=>!ltInt x dk[a]!) dk i2 j=j2)(h:j2<i2) :
  partition ltInt d a b pv=(j2,true,swp dk j2 a):=by
 subst hd;subst hi;subst hj;subst hi2;subst hj2
 unfold partition
 simp only []
 rw [if_pos h]

theorem part_on (d:Array Int)(a b pv:Nat){dk:Array Int}{i j i2 j2:Nat}(hd:dk=swp d a pv)(hi:i=a+1)(hj:j=b-1)(hi2:scanUp (fun x=>ltInt x dk[a]!) dk j i=i2)(hj2:scanDown (fun x=>!ltInt x dk[a]!) dk i2 j=j2)(h:¬i2 > j2) :
  partition ltInt d a b pv=pfin a (partLoop ltInt a (i2+1) (j2-1) (swp dk i2 j2)):=by
 subst hd;subst hi;subst hj;subst hi2;subst hj2
 unfold partition
 simp only []
 rw [if_neg h]
 rfl

theorem pl_break (a i j:Nat)(dk:Array Int){i2 j2:Nat}(hi2:scanUp (fun x=>ltInt x dk[a]!) dk j i=i2)(hj2:scanDown (fun x=>!ltInt x dk[a]!) dk i2 j=j2)(h:j2<i2):partLoop ltInt a i j dk=(j2,dk):=by
 subst hi2;subst hj2
 rw [partLoop_eq,if_pos h]

theorem pl_go (a i j:Nat)(dk:Array Int){i2 j2:Nat}(hi2:scanUp (fun x=>ltInt x dk[a]!) dk j i=i2)(hj2:scanDown (fun x=>!ltInt x dk[a]!) dk i2 j=j2)(h:¬i2 > j2):partLoop ltInt a (i2+1) (j2-1) (swp dk i2 j2)=partLoop ltInt a i j dk:=by
 subst hi2;subst hj2
 rw [partLoop_eq ltInt a i j,if_neg h]

theorem part_calls (blk cap len a b pv:Nat)(d:Array Int)(w:World)(hr:RowAt w blk cap d)(hl:d.size=len)(hap:a≤pv)(hpb:pv<b)(hb:b≤len)(hsz:len≤1048576) :
  Calls Tryz.prog 254 #[.slice (some ⟨blk,0,none⟩) len cap,.int .i64 a,.int .i64 b,.int .i64 pv] w fun e w'=>
   e=.returned (.tuple #[.int .i64 (partition ltInt d a b pv).1,.bool (partition ltInt d a b pv).2.1])∧SRow w w' blk cap (partition ltInt d a b pv).2.2:=by
 have hS0:=SRow.self hr
 have HSw:=fun n=>hS0.swap n a pv (by omega) (by omega)
 obtain⟨g,hg⟩:∃ g:Nat→Int,∀ t,g t=d[t]!:=⟨fun t=>d[t]!,fun _=>rfl⟩
 rw [← hg,← hg] at HSw
 have HSW:=Lib.hid HSw
 have c1:w.cell? ⟨blk,a,none⟩=some (.int .u32 (g a)):=by rw [hg];exact hr.cell a (by omega)
 have c2:w.cell? ⟨blk,pv,none⟩=some (.int .u32 (g pv)):=by rw [hg];exact hr.cell pv (by omega)
 have f1:w.frozen? ⟨blk,a,none⟩=false:=hr.frozen a
 have f2:w.frozen? ⟨blk,pv,none⟩=false:=hr.frozen pv
 have r1:(a:Int)<(len:Int):=by omega
 have r2:(pv:Int)<(len:Int):=by omega
 obtain⟨dk,hdk⟩:∃ x,x=swp d a pv:=⟨_,rfl⟩
 obtain⟨i,hi⟩:∃ x,x=a+1:=⟨_,rfl⟩
 obtain⟨j,hj⟩:∃ x,x=b-1:=⟨_,rfl⟩
 have HD:=Lib.hid hdk
 have HI:=Lib.hid hi
 have HJ:=Lib.hid hj
 have HK:Hid (dk.size=len):=Lib.hid (by rw [hdk,size_swp];exact hl)
 have hai:a<i:=by omega
 have hij:i≤j+1:=by omega
 have hjb:j<b:=by omega
 obtain⟨R,hR⟩:∃ R,partition ltInt d a b pv=R:=⟨_,rfl⟩
 rw [hR]
 have HR:=Lib.hid hR
 clear HSw hg hR hS0 hr hl hdk hi hj
 go_enter Tryz.func254,Tryz.ntmps254
 go_upto_region 1 with fail
 go_cut [] (fun wx=>SRow w wx blk cap dk)
 case first=>
  by_cases hpa:pv=a
  ·subst hpa
   go_region
   all_goals go_wp2_with fail
   all_goals go_meet
   all_goals(rw [HD.out];exact HSW.out 1)
  ·have n1:¬a=pv:=by omega
   go_region
   all_goals go_wp2_with fail
   all_goals go_meet
   all_goals(rw [HD.out];exact HSW.out 1)
 case rest=>
  clear c1 c2 f1 f2
  have HS:=Lib.hid hcut
  clear hcut
  obtain⟨h,hh⟩:∃ h:Nat→Int,∀ t,h t=dk[t]!:=⟨fun t=>dk[t]!,fun _=>rfl⟩
  have HG:=Lib.hid hh
  clear hh
  go_wp2_with fail
  rw [show(b:Int)-1=(j:Int) by have:=HJ.out;omega,show(a:Int)+1=(i:Int) by have:=HI.out;omega]
  go_loopg [10] (j+1) (fun gu vi wr2=>∃ i':Nat,j+1-i'≤gu∧vi=.int .i64 (i':Int)∧i≤i'∧i'≤j+1∧SRow w wr2 blk cap dk∧scanUp (fun x=>ltInt x dk[a]!) dk j i'=scanUp (fun x=>ltInt x dk[a]!) dk j i)
  case atStart=>exact⟨i,by omega,rfl,by omega,hij,HS.out,rfl⟩
  case round=>
   obtain⟨i',hgu,rfl,hii,hij',hS2,hsc⟩:=hrel
   have HS2:=Lib.hid hS2
   have HSC:=Lib.hid hsc
   clear hS2 hsc
   have ca:wr.cell? ⟨blk,a,none⟩=some (.int .u32 (h a)):=by rw [HG.out];exact HS2.out.row.cell a (by rw [HK.out];omega)
   by_cases hle:i'≤j
   ·have ci:wr.cell? ⟨blk,i',none⟩=some (.int .u32 (h i')):=by rw [HG.out];exact HS2.out.row.cell i' (by rw [HK.out];omega)
    have r4:(i':Int)<(len:Int):=by omega
    have r5:(i':Int)≤(j:Int):=by omega
    rcases bool_cases' (ltInt (h i') (h a)) with hb1|hb1
    ·have HI2:Hid (scanUp (fun x=>ltInt x dk[a]!) dk j i=i'):=Lib.hid (by rw [← HSC.out];exact up_end _ dk j i' (Or.inr (by rw [← HG.out,← HG.out];exact hb1)))
     go_wp2_with fail
     go_quiet ((go_at_call 252;exact Calls.quiet_of_same (less_calls _ _ _)))
     go_wp2
     have HS3:=Lib.hid (HS2.out.drewN nq)
     have HB1:=Lib.hid hb1
     clear ca ci HS2 HSC hb1
     go_loopg [11] (j+1) (fun gu vj wr2=>∃ j':Nat,j'≤gu∧vj=.int .i64 (j':Int)∧j'≤j∧i'≤j'+1∧SRow w wr2 blk cap dk∧scanDown (fun x=>!ltInt x dk[a]!) dk i' j'=scanDown (fun x=>!ltInt x dk[a]!) dk i' j)
     case atStart=>exact⟨j,by omega,rfl,by omega,hij',HS3.out,rfl⟩
     case round=>
      obtain⟨j',hgu2,rfl,hjj,hij2,hS2,hsd⟩:=hrel
      have HS2:=Lib.hid hS2
      have HSD:=Lib.hid hsd
      clear hS2 hsd
      have ca:wr.cell? ⟨blk,a,none⟩=some (.int .u32 (h a)):=by rw [HG.out];exact HS2.out.row.cell a (by rw [HK.out];omega)
      have r6:(j':Int)<(len:Int):=by omega
      have cj:wr.cell? ⟨blk,j',none⟩=some (.int .u32 (h j')):=by rw [HG.out];exact HS2.out.row.cell j' (by rw [HK.out];omega)
      have fj:wr.frozen? ⟨blk,j',none⟩=false:=HS2.out.row.frozen j'
      by_cases hle2:i'≤j'
      ·have r7:(i':Int)≤(j':Int):=by omega
       rcases bool_cases' (ltInt (h j') (h a)) with hb2|hb2
       ·have HN:Hid (scanDown (fun x=>!ltInt x dk[a]!) dk i' (j'-1)=scanDown (fun x=>!ltInt x dk[a]!) dk i' j):=Lib.hid (by rw [← HSD.out];exact down_go _ dk i' j' hle2 (by omega) (by rw [← HG.out,← HG.out,hb2];rfl))
        go_wp2_with fail
        go_quiet ((go_at_call 252;exact Calls.quiet_of_same (less_calls _ _ _)))
        go_wp2
        go_roundg (gk-1)
        case rel=>exact⟨j'-1,by omega,by congr 1;omega,by omega,by omega,HS2.out.drewN nq,HN.out⟩
        case measure=>omega
       ·have HJ2:Hid (scanDown (fun x=>!ltInt x dk[a]!) dk i' j=j'):=Lib.hid (by rw [← HSD.out];exact down_end _ dk i' j' (Or.inr (by rw [← HG.out,← HG.out,hb2];rfl)))
        have nij:¬j'=i':=fun e=>by have h1:=HB1.out;rw [← e,hb2] at h1;cases h1
        have n2:¬i'=j':=fun e=>nij e.symm
        have ci:wr.cell? ⟨blk,i',none⟩=some (.int .u32 (h i')):=by rw [HG.out];exact HS2.out.row.cell i' (by rw [HK.out];omega)
        have fi:wr.frozen? ⟨blk,i',none⟩=false:=HS2.out.row.frozen i'
        have r8:(i':Int)<(len:Int):=by omega
        have r9:¬(j':Int)<(i':Int):=by omega
        have r9n:¬j'<i':=by omega
        have HSw:=fun n=>HS2.out.swap n i' j' (by rw [HK.out];omega) (by rw [HK.out];omega)
        rw [← HG.out,← HG.out] at HSw
        have HSW2:=Lib.hid HSw
        clear HSw
        go_wp2_with fail
        go_quiet ((go_at_call 252;exact Calls.quiet_of_same (less_calls _ _ _)))
        go_wp2
        go_region
        all_goals go_wp2_with fail
        have HE2:Hid (R=pfin a (partLoop ltInt a (i'+1) (j'-1) (swp dk i' j'))):=Lib.hid (by rw [← HR.out];exact part_on d a b pv HD.out HI.out HJ.out HI2.out HJ2.out (by omega))
        have HSX:=Lib.hid (HSW2.out (nq+1))
        have HKX:Hid ((swp dk i' j').size=len):=Lib.hid (by rw [size_swp];exact HK.out)
        have q1:a<i'+1:=by omega
        have q2:i'+1≤j'-1+1:=by omega
        have q3:j'-1<b:=by omega
        have q4:0<j':=by omega
        clear ca cj fj ci fi
        go_loopg [10,11] (b+1) (fun gk vi vj wr=>∃ (i j:Nat) (dk:Array Int),j+1-i≤gk∧vi=.int .i64 (i:Int)∧vj=.int .i64 (j:Int)∧a<i∧i≤j+1∧j<b∧dk.size=len∧SRow w wr blk cap dk∧R=pfin a (partLoop ltInt a i j dk))
        case atStart=>exact⟨i'+1,j'-1,_,by omega,by go_num,by congr 1;omega,q1,q2,q3,HKX.out,HSX.out,HE2.out⟩
        case round=>
         clear HSX HKX HE2 HSW2 HJ2 HI2 HK HG HS HS2 HS3 HSD HB1 HD HI HJ HR nij n2 r8 r9 r9n r6 r7 r5 r4 q1 q2 q3 q4 hb2 hle hle2 hij2 hjj hij' hii hij hai hjb
         obtain⟨i,j,dk,hgk,rfl,rfl,hai,hij,hjb,hsk,hS,hO⟩:=hrel
         have HS:=Lib.hid hS
         have HO:=Lib.hid hO
         have HK:=Lib.hid hsk
         obtain⟨gko,rfl⟩:∃ x:Nat,x=gk:=⟨_,rfl⟩
         obtain⟨wo,rfl⟩:∃ x:World,x=wr:=⟨_,rfl⟩
         obtain⟨h,hh⟩:∃ h:Nat→Int,∀ t,h t=dk[t]!:=⟨fun t=>dk[t]!,fun _=>rfl⟩
         have HG:=Lib.hid hh
         clear hS hO hsk hh
         go_wp2_with fail
         go_loopg [10] (j+1) (fun gu vi wr2=>∃ i':Nat,j+1-i'≤gu∧vi=.int .i64 (i':Int)∧i≤i'∧i'≤j+1∧SRow w wr2 blk cap dk∧scanUp (fun x=>ltInt x dk[a]!) dk j i'=scanUp (fun x=>ltInt x dk[a]!) dk j i)
         case atStart=>exact⟨i,by omega,rfl,by omega,hij,HS.out,rfl⟩
         case round=>
          obtain⟨i',hgu,rfl,hii,hij',hS2,hsc⟩:=hrel
          have HS2:=Lib.hid hS2
          have HSC:=Lib.hid hsc
          clear hS2 hsc
          have ca:wr.cell? ⟨blk,a,none⟩=some (.int .u32 (h a)):=by rw [HG.out];exact HS2.out.row.cell a (by rw [HK.out];omega)
          by_cases hle:i'≤j
          ·have ci:wr.cell? ⟨blk,i',none⟩=some (.int .u32 (h i')):=by rw [HG.out];exact HS2.out.row.cell i' (by rw [HK.out];omega)
           have r4:(i':Int)<(len:Int):=by omega
           have r5:(i':Int)≤(j:Int):=by omega
           rcases bool_cases' (ltInt (h i') (h a)) with hb1|hb1
           ·have HI2:Hid (scanUp (fun x=>ltInt x dk[a]!) dk j i=i'):=Lib.hid (by rw [← HSC.out];exact up_end _ dk j i' (Or.inr (by rw [← HG.out,← HG.out];exact hb1)))
            go_wp2_with fail
            go_quiet ((go_at_call 252;exact Calls.quiet_of_same (less_calls _ _ _)))
            go_wp2
            have HS3:=Lib.hid (HS2.out.drewN nq)
            have HB1:=Lib.hid hb1
            clear ca ci HS2 HSC hb1
            go_loopg [11] (j+1) (fun gu vj wr2=>∃ j':Nat,j'≤gu∧vj=.int .i64 (j':Int)∧j'≤j∧i'≤j'+1∧SRow w wr2 blk cap dk∧scanDown (fun x=>!ltInt x dk[a]!) dk i' j'=scanDown (fun x=>!ltInt x dk[a]!) dk i' j)
            case atStart=>exact⟨j,by omega,rfl,by omega,hij',HS3.out,rfl⟩
            case round=>
             obtain⟨j',hgu2,rfl,hjj,hij2,hS2,hsd⟩:=hrel
             have HS2:=Lib.hid hS2
             have HSD:=Lib.hid hsd
             clear hS2 hsd
             have ca:wr.cell? ⟨blk,a,none⟩=some (.int .u32 (h a)):=by rw [HG.out];exact HS2.out.row.cell a (by rw [HK.out];omega)
             have r6:(j':Int)<(len:Int):=by omega
             have cj:wr.cell? ⟨blk,j',none⟩=some (.int .u32 (h j')):=by rw [HG.out];exact HS2.out.row.cell j' (by rw [HK.out];omega)
             have fj:wr.frozen? ⟨blk,j',none⟩=false:=HS2.out.row.frozen j'
             by_cases hle2:i'≤j'
             ·have r7:(i':Int)≤(j':Int):=by omega
              rcases bool_cases' (ltInt (h j') (h a)) with hb2|hb2
              ·have HN:Hid (scanDown (fun x=>!ltInt x dk[a]!) dk i' (j'-1)=scanDown (fun x=>!ltInt x dk[a]!) dk i' j):=Lib.hid (by rw [← HSD.out];exact down_go _ dk i' j' hle2 (by omega) (by rw [← HG.out,← HG.out,hb2];rfl))
               go_wp2_with fail
               go_quiet ((go_at_call 252;exact Calls.quiet_of_same (less_calls _ _ _)))
               go_wp2
               go_roundg (gk-1)
               case rel=>exact⟨j'-1,by omega,by congr 1;omega,by omega,by omega,HS2.out.drewN nq,HN.out⟩
               case measure=>omega
              ·have HJ2:Hid (scanDown (fun x=>!ltInt x dk[a]!) dk i' j=j'):=Lib.hid (by rw [← HSD.out];exact down_end _ dk i' j' (Or.inr (by rw [← HG.out,← HG.out,hb2];rfl)))
               have nij:¬j'=i':=fun e=>by have h1:=HB1.out;rw [← e,hb2] at h1;cases h1
               have n2:¬i'=j':=fun e=>nij e.symm
               have ci:wr.cell? ⟨blk,i',none⟩=some (.int .u32 (h i')):=by rw [HG.out];exact HS2.out.row.cell i' (by rw [HK.out];omega)
               have fi:wr.frozen? ⟨blk,i',none⟩=false:=HS2.out.row.frozen i'
               have r8:(i':Int)<(len:Int):=by omega
               have r9:¬(j':Int)<(i':Int):=by omega
               have r9n:¬j'<i':=by omega
               have HSw:=fun n=>HS2.out.swap n i' j' (by rw [HK.out];omega) (by rw [HK.out];omega)
               rw [← HG.out,← HG.out] at HSw
               have HSW2:=Lib.hid HSw
               clear HSw
               go_wp2_with fail
               go_quiet ((go_at_call 252;exact Calls.quiet_of_same (less_calls _ _ _)))
               go_wp2
               go_region
               all_goals go_wp2_with fail
               go_roundg (gko-1)
               case rel=>exact⟨i'+1,j'-1,_,by omega,by go_num,by congr 1;omega,by omega,by omega,by omega,by rw [size_swp];exact HK.out,HSW2.out (nq+1),by rw [pl_go a i j dk HI2.out HJ2.out (by omega)];exact HO.out⟩
               case measure=>omega
             ·skip
              have HJ2:Hid (scanDown (fun x=>!ltInt x dk[a]!) dk i' j=j'):=Lib.hid (by rw [← HSD.out];exact down_end _ dk i' j' (Or.inl hle2))
              have r7:decide ((i':Int)≤(j':Int))=false:=decide_eq_false (by omega)
              have r8:(j':Int)<(i':Int):=by omega
              have fa:wr.frozen? ⟨blk,a,none⟩=false:=HS2.out.row.frozen a
              have HX:Hid (R=(j',false,swp dk j' a)):=Lib.hid (by rw [HO.out,pl_break a i j dk HI2.out HJ2.out (by omega)];rfl)

              have HSw:=fun n=>HS2.out.swap n j' a (by rw [HK.out];omega) (by rw [HK.out];omega)
              rw [← HG.out,← HG.out] at HSw
              have HSW3:=Lib.hid HSw
              clear HSw
              by_cases hja:j'=a
              ·subst hja
               go_wp2_with fail
               go_quiet ((go_at_call 252;exact Calls.quiet_of_same (less_calls _ _ _)))
               go_wp2
               go_region
               all_goals go_wp2
               all_goals refine bodyPost_ret (results_tmp2 rfl _ _ _) rfl ?_
               all_goals(rw [HX.out];exact⟨rfl,HSW3.out (nq+1)⟩)
              ·have n5:¬a=j':=fun e=>hja e.symm
               go_wp2_with fail
               go_quiet ((go_at_call 252;exact Calls.quiet_of_same (less_calls _ _ _)))
               go_wp2
               go_region
               all_goals go_wp2
               all_goals refine bodyPost_ret (results_tmp2 rfl _ _ _) rfl ?_
               all_goals(rw [HX.out];exact⟨rfl,HSW3.out (nq+1)⟩)
           ·have HN:Hid (scanUp (fun x=>ltInt x dk[a]!) dk j (i'+1)=scanUp (fun x=>ltInt x dk[a]!) dk j i):=Lib.hid (by rw [← HSC.out];exact up_go _ dk j i' hle (by rw [← HG.out,← HG.out];exact hb1))
            go_wp2_with fail
            go_quiet ((go_at_call 252;exact Calls.quiet_of_same (less_calls _ _ _)))
            go_wp2
            go_roundg (gk-1)
            case rel=>exact⟨i'+1,by omega,by go_num,by omega,by omega,HS2.out.drewN nq,HN.out⟩
            case measure=>omega
          ·have HI2:Hid (scanUp (fun x=>ltInt x dk[a]!) dk j i=i'):=Lib.hid (by rw [← HSC.out];exact up_end _ dk j i' (Or.inl hle))
           have r5:decide ((i':Int)≤(j:Int))=false:=decide_eq_false (by omega)
           go_wp2_with fail
           go_quiet ((go_at_call 252;exact Calls.quiet_of_same (less_calls _ _ _)))
           go_wp2
           have HS3:=Lib.hid (HS2.out.drewN nq)
           clear ca HS2 HSC r5
           go_loopg [11] (j+1) (fun gu vj wr2=>∃ j':Nat,j'≤gu∧vj=.int .i64 (j':Int)∧j'≤j∧i'≤j'+1∧SRow w wr2 blk cap dk∧scanDown (fun x=>!ltInt x dk[a]!) dk i' j'=scanDown (fun x=>!ltInt x dk[a]!) dk i' j)
           case atStart=>exact⟨j,by omega,rfl,by omega,hij',HS3.out,rfl⟩
           case round=>
            obtain⟨j',hgu2,rfl,hjj,hij2,hS2,hsd⟩:=hrel
            have HS2:=Lib.hid hS2
            have HSD:=Lib.hid hsd
            clear hS2 hsd
            have ca:wr.cell? ⟨blk,a,none⟩=some (.int .u32 (h a)):=by rw [HG.out];exact HS2.out.row.cell a (by rw [HK.out];omega)
            have r6:(j':Int)<(len:Int):=by omega
            have cj:wr.cell? ⟨blk,j',none⟩=some (.int .u32 (h j')):=by rw [HG.out];exact HS2.out.row.cell j' (by rw [HK.out];omega)
            have fj:wr.frozen? ⟨blk,j',none⟩=false:=HS2.out.row.frozen j'
            by_cases hle2:i'≤j'
            ·exfalso;omega
            ·skip
             have HJ2:Hid (scanDown (fun x=>!ltInt x dk[a]!) dk i' j=j'):=Lib.hid (by rw [← HSD.out];exact down_end _ dk i' j' (Or.inl hle2))
             have r7:decide ((i':Int)≤(j':Int))=false:=decide_eq_false (by omega)
             have r8:(j':Int)<(i':Int):=by omega
             have fa:wr.frozen? ⟨blk,a,none⟩=false:=HS2.out.row.frozen a
             have HX:Hid (R=(j',false,swp dk j' a)):=Lib.hid (by rw [HO.out,pl_break a i j dk HI2.out HJ2.out (by omega)];rfl)

             have HSw:=fun n=>HS2.out.swap n j' a (by rw [HK.out];omega) (by rw [HK.out];omega)
             rw [← HG.out,← HG.out] at HSw
             have HSW3:=Lib.hid HSw
             clear HSw
             by_cases hja:j'=a
             ·subst hja
              go_wp2_with fail
              go_quiet ((go_at_call 252;exact Calls.quiet_of_same (less_calls _ _ _)))
              go_wp2
              go_region
              all_goals go_wp2
              all_goals refine bodyPost_ret (results_tmp2 rfl _ _ _) rfl ?_
              all_goals(rw [HX.out];exact⟨rfl,HSW3.out (nq+1)⟩)
             ·have n5:¬a=j':=fun e=>hja e.symm
              go_wp2_with fail
              go_quiet ((go_at_call 252;exact Calls.quiet_of_same (less_calls _ _ _)))
              go_wp2
              go_region
              all_goals go_wp2
              all_goals refine bodyPost_ret (results_tmp2 rfl _ _ _) rfl ?_
              all_goals(rw [HX.out];exact⟨rfl,HSW3.out (nq+1)⟩)
      ·skip
       have HJ2:Hid (scanDown (fun x=>!ltInt x dk[a]!) dk i' j=j'):=Lib.hid (by rw [← HSD.out];exact down_end _ dk i' j' (Or.inl hle2))
       have r7:decide ((i':Int)≤(j':Int))=false:=decide_eq_false (by omega)
       have r8:(j':Int)<(i':Int):=by omega
       have fa:wr.frozen? ⟨blk,a,none⟩=false:=HS2.out.row.frozen a
       have HX:Hid (R=(j',true,swp dk j' a)):=Lib.hid (by rw [← HR.out];exact part_done d a b pv HD.out HI.out HJ.out HI2.out HJ2.out (by omega))
       have HSw:=fun n=>HS2.out.swap n j' a (by rw [HK.out];omega) (by rw [HK.out];omega)
       rw [← HG.out,← HG.out] at HSw
       have HSW3:=Lib.hid HSw
       clear HSw
       by_cases hja:j'=a
       ·subst hja
        go_wp2_with fail
        go_quiet ((go_at_call 252;exact Calls.quiet_of_same (less_calls _ _ _)))
        go_wp2
        go_region
        all_goals go_wp2
        all_goals refine bodyPost_ret (results_tmp2 rfl _ _ _) rfl ?_
        all_goals(rw [HX.out];exact⟨rfl,HSW3.out (nq+1)⟩)
       ·have n5:¬a=j':=fun e=>hja e.symm
        go_wp2_with fail
        go_quiet ((go_at_call 252;exact Calls.quiet_of_same (less_calls _ _ _)))
        go_wp2
        go_region
        all_goals go_wp2
        all_goals refine bodyPost_ret (results_tmp2 rfl _ _ _) rfl ?_
        all_goals(rw [HX.out];exact⟨rfl,HSW3.out (nq+1)⟩)
    ·have HN:Hid (scanUp (fun x=>ltInt x dk[a]!) dk j (i'+1)=scanUp (fun x=>ltInt x dk[a]!) dk j i):=Lib.hid (by rw [← HSC.out];exact up_go _ dk j i' hle (by rw [← HG.out,← HG.out];exact hb1))
     go_wp2_with fail
     go_quiet ((go_at_call 252;exact Calls.quiet_of_same (less_calls _ _ _)))
     go_wp2
     go_roundg (gk-1)
     case rel=>exact⟨i'+1,by omega,by go_num,by omega,by omega,HS2.out.drewN nq,HN.out⟩
     case measure=>omega
   ·have HI2:Hid (scanUp (fun x=>ltInt x dk[a]!) dk j i=i'):=Lib.hid (by rw [← HSC.out];exact up_end _ dk j i' (Or.inl hle))
    have r5:decide ((i':Int)≤(j:Int))=false:=decide_eq_false (by omega)
    go_wp2_with fail
    go_quiet ((go_at_call 252;exact Calls.quiet_of_same (less_calls _ _ _)))
    go_wp2
    have HS3:=Lib.hid (HS2.out.drewN nq)
    clear ca HS2 HSC r5
    go_loopg [11] (j+1) (fun gu vj wr2=>∃ j':Nat,j'≤gu∧vj=.int .i64 (j':Int)∧j'≤j∧i'≤j'+1∧SRow w wr2 blk cap dk∧scanDown (fun x=>!ltInt x dk[a]!) dk i' j'=scanDown (fun x=>!ltInt x dk[a]!) dk i' j)
    case atStart=>exact⟨j,by omega,rfl,by omega,hij',HS3.out,rfl⟩
    case round=>
     obtain⟨j',hgu2,rfl,hjj,hij2,hS2,hsd⟩:=hrel
     have HS2:=Lib.hid hS2
     have HSD:=Lib.hid hsd
     clear hS2 hsd
     have ca:wr.cell? ⟨blk,a,none⟩=some (.int .u32 (h a)):=by rw [HG.out];exact HS2.out.row.cell a (by rw [HK.out];omega)
     have r6:(j':Int)<(len:Int):=by omega
     have cj:wr.cell? ⟨blk,j',none⟩=some (.int .u32 (h j')):=by rw [HG.out];exact HS2.out.row.cell j' (by rw [HK.out];omega)
     have fj:wr.frozen? ⟨blk,j',none⟩=false:=HS2.out.row.frozen j'
     by_cases hle2:i'≤j'
     ·exfalso;omega
     ·skip
      have HJ2:Hid (scanDown (fun x=>!ltInt x dk[a]!) dk i' j=j'):=Lib.hid (by rw [← HSD.out];exact down_end _ dk i' j' (Or.inl hle2))
      have r7:decide ((i':Int)≤(j':Int))=false:=decide_eq_false (by omega)
      have r8:(j':Int)<(i':Int):=by omega
      have fa:wr.frozen? ⟨blk,a,none⟩=false:=HS2.out.row.frozen a
      have HX:Hid (R=(j',true,swp dk j' a)):=Lib.hid (by rw [← HR.out];exact part_done d a b pv HD.out HI.out HJ.out HI2.out HJ2.out (by omega))
      have HSw:=fun n=>HS2.out.swap n j' a (by rw [HK.out];omega) (by rw [HK.out];omega)
      rw [← HG.out,← HG.out] at HSw
      have HSW3:=Lib.hid HSw
      clear HSw
      by_cases hja:j'=a
      ·subst hja
       go_wp2_with fail
       go_quiet ((go_at_call 252;exact Calls.quiet_of_same (less_calls _ _ _)))
       go_wp2
       go_region
       all_goals go_wp2
       all_goals refine bodyPost_ret (results_tmp2 rfl _ _ _) rfl ?_
       all_goals(rw [HX.out];exact⟨rfl,HSW3.out (nq+1)⟩)
      ·have n5:¬a=j':=fun e=>hja e.symm
       go_wp2_with fail
       go_quiet ((go_at_call 252;exact Calls.quiet_of_same (less_calls _ _ _)))
       go_wp2
       go_region
       all_goals go_wp2
       all_goals refine bodyPost_ret (results_tmp2 rfl _ _ _) rfl ?_
       all_goals(rw [HX.out];exact⟨rfl,HSW3.out (nq+1)⟩)

end Go.Proofs.YtpgcbmbnognieaaGreat
