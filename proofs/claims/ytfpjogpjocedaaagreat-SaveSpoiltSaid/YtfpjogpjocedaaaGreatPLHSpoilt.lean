/-
  Proved: the statement SaveSpoilt, for every input.
-/
import Derived.Test.YtfpjogpjocedaaaGreatPSetF
import Derived.Test.YtfpjogpjocedaaaGreatPSpoiltP
import Derived.Test.YtfpjogpjocedaaaGreatPTermsS
import Derived.Test.YtfpjogpjocedaaaGreatRows
namespace Go.Proofs.YtfpjogpjocedaaaGreat
set_option linter.unusedSimpArgs false
set_option linter.unusedVariables false
set_option maxHeartbeats 600000
open Go.ChangeShapes Go.WideShapes Go.ChangeAt Go.RowKit

set_option maxRecDepth 100000 in
set_option maxHeartbeats 4000000 in
theorem saveSpoilt_in (a1:Option Addr) (cap1:Nat) (ps:List Int) (f a at_ by_ cut:Int) (a7:Option Addr) (cap7:Nat) (tl:List Int) (w:World) (hps:IntsAt w a1 ps) (h5:ps.length ≤ 5) (hp:permB ps=true) (hf:1 ≤ f ∧ f ≤ 5) (ha:0 ≤ a) (ha2:a ≤ 18446744073709551615) (hat:0 ≤ at_ ∧ at_ ≤ 255) (hby:0 ≤ by_ ∧ by_ ≤ 255) (hcut:0 ≤ cut ∧ cut ≤ 255) (htl:BsAt w a7 tl) (hib:IsBs tl) (hnil:a7=none → cap7=0) (h9:tl.length ≤ 9) :
  Calls Tryz.prog 5 #[.slice a1 ps.length cap1,.int .u8 f,.int .u64 a,.int .u8 at_,.int .u8 by_,.int .u8 cut,.slice a7 tl.length cap7] w fun e w'=>e=.returned (.bool true) ∧ Keeps w w':=by
 have hrp:=fun (W:World) (hW:Keeps w W)=>refRight_calls a1 cap1 ps W (hps.keeps hW) (by omega)
 have hst:=fun (W:World) (hW:Keeps w W)=>stage_calls 900 a1 cap1 ps W (hps.keeps hW) hp (by omega) (by omega)
 have hba:=fun (W:World)=>bits_calls ps.length (by omega) a ha ha2 W
 rw [hp] at hrp
 have hp5:2 ^ ps.length ≤ 2 ^ 5:=Nat.pow_le_pow_right (by decide) h5
 have e5:(2:Nat) ^ 5=32:=rfl
 rw [e5] at hp5
 have hp1:1 ≤ 2 ^ ps.length:=Nat.pow_pos (by decide)
 have hof:=fun (B:Nat) (bs:List Bool) (hbl:bs.length=2 ^ ps.length) (W:World) (hB:BoolsAt W B bs)=>by
  have:=setOf_calls (ps.length:Int) B (2 ^ ps.length) bs W hB (by omega) (by omega)
  rw [hbl] at this
  exact this
 have hbo:=fun (F Fo:Nat → Prop) (W:World) (sb ob:Nat) (M:St) (G:Nat) (bs:List Bool) (hbl:bs.length=2 ^ ps.length) (hS:Sit F Fo W sb ob M ps) (hU:RowU W G (wordsL bs)) (hG:¬ F G) (hroom:M.len + 31 ≤ M.room)=>by
  have hwl:(wordsL bs).length ≤ 1048576:=by rw [wordsL_len,hbl];omega
  exact buildOf_calls hS.rep hS.ord hS.dis hS.n f (by simp [isFormB];omega) (some ⟨G,0,none⟩) (wordsL bs).length (wordsL bs).length rfl hwl (hU.words (fun x hx=>wordsL_range hx)) (fun b off e hh=>by cases e;exact hG hh) (setOkB_words (by omega) hbl) (by omega)
 obtain ⟨K,hK⟩:∃ K,K=ps.length:=⟨_,rfl⟩
 obtain ⟨p,hpp⟩:∃ p,p=2 ^ K:=⟨_,rfl⟩
 rw [← hK] at hrp hst hba h5 hp5 hp1 ⊢
 simp only [← hK] at hof hbo
 rw [← hpp] at hba hp5 hp1
 simp only [← hpp] at hof hbo
 have HRP:=Lib.hid hrp
 have HST:=Lib.hid hst
 have HBA:=Lib.hid hba
 have HOF:=Lib.hid hof
 have HBO:=Lib.hid hbo
 have HK:=Lib.hid hK
 have HPP:=Lib.hid hpp
 have HP:=Lib.hid hp
 have HPS:=Lib.hid hps
 have HF:=Lib.hid hf
 have HTL:=Lib.hid htl
 have HIB:=Lib.hid hib
 have HNIL:=Lib.hid hnil
 obtain ⟨TL,hTL⟩:∃ TL,TL=tl.length:=⟨_,rfl⟩
 rw [← hTL] at h9 ⊢
 have HTLL:=Lib.hid hTL
 have f1:¬ f < 1:=by omega
 have f5:¬ 5 < f:=by omega
 clear hrp hst hba hof hbo hK hpp hp hps htl hib hnil hTL e5
 go_enter Tryz.func5,Tryz.ntmps5
 go_wp2_with fail
 refine (l28_alive _).mono ?_
 rintro e w1 ⟨rfl,hk1⟩
 go_wp2_with fail
 refine (HRP.out _ hk1).mono ?_
 rintro e w11 ⟨rfl,rfl⟩
 go_wp2_with fail
 refine (HST.out _ hk1).mono ?_
 rintro e w3 ⟨sb,ob,F,Fo,rfl,hk3,hS,hO,hdis,hFl,hFo⟩
 have kw3:=hk1.trans hk3
 have hlo0:∀ k,F k ∨ Fo k → w.heap.size ≤ k:=fun k hk=>by
  have:=hk1.size
  rcases hk with hk | hk
  ·have:=hFl k hk;omega
  ·have:=hFo k hk;omega
 have hsit0:Sit F Fo w3 sb ob (St.new (K:Int) 900) ps:=⟨hS,hO,hdis,by show (K:Int)=_;rw [HK.out],by show (900:Int) < 1048576;decide⟩
 have HSIT0:=Lib.hid hsit0
 have HLO0:=Lib.hid hlo0
 clear hS hO hdis hFl hFo hk3 hsit0 hlo0
 go_wp2_with fail
 refine (HBA.out _).mono ?_
 rintro e w4 ⟨bs,hbl,rfl,hB,hk4⟩
 have HOF1:=Lib.hid (HOF.out _ bs hbl _ hB)
 have HBL:=Lib.hid hbl
 clear hB hbl
 go_wp2_with fail
 refine HOF1.out.mono ?_
 rintro e w6 ⟨G1,hG1,rfl,hU1,hk6⟩
 have hk36:=hk4.trans hk6
 have s34:=hk4.size
 have hsit6:=HSIT0.out.keeps hk36
 have nG1:¬ F G1:=fun hh=>by have:=HSIT0.out.rep.lt _ hh;omega
 have HBO1:=Lib.hid (HBO.out F Fo w6 sb ob _ G1 bs HBL.out hsit6 hU1 nG1 (by show (0:Int) + 31 ≤ 900;decide))
 have HSIT6:=Lib.hid hsit6
 have kw6:=kw3.trans hk36
 clear hU1 nG1 hsit6 hk4
 go_wp2_with fail
 refine HBO1.out.mono ?_
 rintro e w7 ⟨x,M1,rfl,hxok,hbt1,⟨hgr1,hsol1⟩,hst1⟩
 obtain ⟨F1,hsit1,sub1,upd1⟩:=sit_built HSIT6.out hgr1 hst1
 have low1:∀ k,F1 k → w.heap.size ≤ k:=fun k hk=>by
  rcases sub1 k hk with h | h
  ·exact HLO0.out k (.inl h)
  ·have:=kw6.size;omega
 have kw7:=kw6.new upd1 HLO0.out
 have hsx:=built_stands hsit1.rep.wf HF.out HP.out hsit1.n hxok hbt1
 have hl1:M1.len ≤ 31:=by
  have:=hgr1.len
  have h32:2 ^ ps.length ≤ 32:=by rw [← HK.out,← HPP.out];exact hp5
  have h0:(St.new (K:Int) 900).len=0:=rfl
  omega
 have hr1:M1.room=900:=hgr1.room
 have hso1:M1.solid:=hsol1 (new_solid _ _)
 have HSIT1:=Lib.hid hsit1
 have HSX:=Lib.hid hsx
 have HSO1:=Lib.hid hso1
 have HLOW1:=Lib.hid low1
 have HKW7:=Lib.hid kw7
 have HLR:=Lib.hid (And.intro hl1 hr1)
 clear hbt1 hgr1 hsol1 hst1 hsit1 sub1 upd1 hsx hso1 low1 hl1 hr1 kw7
 go_wp2_with fail
 obtain ⟨W7,hW7⟩:∃ W,W=w7.alloc (.cells #[.int .u8 x.tag,.int .u32 x.to] 37):=⟨_,rfl⟩
 have hk7:Keeps w7 W7:=by rw [hW7];exact (Keeps.refl w7).alloc _
 rw [← hW7]
 clear hW7
 have hkr:kRight M1 f x 0=true:=kRight_of HF.out HSX.out.lead HSX.out.right
 have hc0:saveCode M1 ps.length f x=0:=by
  unfold saveCode
  rw [if_pos HSIT1.out.n,if_pos (by have:=HF.out;unfold isFormB;simp;omega),if_pos hkr]
 have hsv:=save_calls (HSIT1.out.rep.keeps hk7) (HSIT1.out.ord.keeps hk7) f (by have:=HF.out;omega) x hxok
 have HSV:=Lib.hid hsv
 clear hsv
 refine HSV.out.mono ?_
 rintro e w8 hh
 rcases hh with ⟨-,v,rfl,hrow,hk8⟩ | ⟨hq,_⟩
 case inr=>exact absurd hc0 hq
 have hfa1:FitA M1:=fun id r hl=>HSIT1.out.rep.fit hl
 have hpr:=perm_range2 HP.out
 have hnum:=numM_solid HSIT1.out.rep.wf hfa1 HSO1.out x.to (k:=31) (by have:=HLR.out.1;omega)
 have hBl:=saveB_short HSIT1.out.rep.wf hfa1 hpr.2 (by rw [← HK.out];omega) (f:=f) (by have:=HF.out;omega) hxok hnum (by decide)
 have hBs:=saveB_bs M1 ps f x
 have hBp:0 < (saveB M1 ps f x).length:=by
  have:=putB_pos M1.n.toNat
  unfold saveB
  simp only [List.length_append]
  omega
 obtain ⟨B,hB⟩:∃ B,B=saveB M1 ps f x:=⟨_,rfl⟩
 rw [← hB] at hrow hBl hBs hBp
 obtain ⟨g4,cap4,rfl,hb4,hc4,hg4⟩:=hrow.shape hBp
 obtain ⟨L,hL⟩:∃ L,L=B.length:=⟨_,rfl⟩
 have HROW:=Lib.hid hrow
 rw [← hL] at hBl hBp hc4 ⊢
 have HL:=Lib.hid hL
 have HBS:=Lib.hid hBs
 have HK8:=Lib.hid (hk7.trans hk8)
 have HK7:=Lib.hid hk7
 clear hfa1 hpr hnum hB hrow hBs hL hk7 hk8 hc0 hkr
 go_upto_region 13 with fail
 go_wp2_with (first
  | (at_builtin;refine wpB_append rfl _ _ rfl w8.heap.size W7.heap.size _ _ [] B rfl (by rw [HL.out];rfl) (owns_noneB w8 w8.heap.size (Nat.le_refl _)) (HROW.out.keeps ((Keeps.refl w8).alloc _)) (by simp only [List.length_nil];rw [← HL.out];omega) (by simp) ?_;intro v2 w9 hr2 hg2;rw [List.nil_append] at hr2;have HR2:=Lib.hid hr2;have HG2:=Lib.hid hg2;clear hr2 hg2)
  | fail)
 have hk89:Keeps w8 w9:=Keeps.new (F:=fun k=>(Value.slice (some ⟨w8.heap.size,0,none⟩) 0 0).ownBlock=some k) ((Keeps.refl w8).alloc (.cells #[] 5)) (Upd.of_row HG2.out) (fun k hk=>by have e:w8.heap.size=k:=Option.some.inj hk;omega)
 obtain ⟨g,cap,rfl,hbg,hcg,hgl⟩:=HR2.out.shape (by rw [← HL.out];exact hBp)
 have HR2':=HR2
 rw [← HL.out] at hcg ⊢
 obtain ⟨i,hi⟩:∃ i:Nat,i=at_.toNat % L:=⟨_,rfl⟩
 have hiL:i < L:=by rw [hi];exact Nat.mod_lt _ hBp
 obtain ⟨y0,hy0⟩:∃ y,B[i]?=some y:=⟨_,List.getElem?_eq_getElem (by rw [← HL.out];exact hiL)⟩
 obtain ⟨cy,cyf⟩:=HR2'.out.byte hy0
 have hy0r:=HBS.out y0 (List.mem_of_getElem? hy0)
 have hmod:at_ % (L:Int)=(i:Int):=by
  have e1:at_=((at_.toNat:Nat):Int):=by omega
  rw [hi,e1]
  simp
 have hx0:=xor_u8 hy0r hby
 have HX0:=Lib.hid hx0
 have HKX:=Lib.hid hk89
 have iL:(i:Int) < (L:Int):=by omega
 have HI:=Lib.hid hi
 obtain ⟨k,hk⟩:∃ k:Nat,k=L - cut.toNat % L:=⟨_,rfl⟩
 have hkm:=Nat.mod_lt cut.toNat hBp
 have hkL:k ≤ L:=by omega
 have hkp:0 < k:=by omega
 have hcm:(L:Int) - cut % (L:Int)=(k:Int):=by
  have e1:cut=((cut.toNat:Nat):Int):=by omega
  have e2:cut % (L:Int)=((cut.toNat % L:Nat):Int):=by rw [e1];simp
  rw [e2]
  omega
 have HCM:=Lib.hid hcm
 have kL:(k:Int) ≤ (L:Int):=by omega
 have kpz:(0:Int) ≤ (k:Int):=by omega
 have kc:(k:Int) ≤ (cap:Int):=by omega
 clear hi hk89 hy0 hx0 hk hcm hkm
 go_region
 obtain ⟨C1,hC1⟩:∃ C1,C1=B.set i (bits BinOp.xor IntKind.u8 y0 by_):=⟨_,rfl⟩
 obtain ⟨W10,hW10⟩:∃ W,W=(w9.setCell ⟨g,i,none⟩ (.int .u8 (bits BinOp.xor IntKind.u8 y0 by_))).drew:=⟨_,rfl⟩
 have hk910:Upd (fun j=>j=g) w9 W10:=by rw [hW10];exact (updX w9 g i _).trans' (((Keeps.refl _).drew).upd _)
 have hC1l:C1.length=L:=by rw [hC1,List.length_set,HL.out]
 have hr10:BsRow w8.heap.size W10 (.slice (some ⟨g,0,none⟩) C1.length cap) C1:=by
  rw [hW10,hC1]
  exact (HR2'.out.set i _).keeps ((Keeps.refl _).drew)
 have hC1b:IsBs C1:=by rw [hC1];exact isBs_set HBS.out i HX0.out
 have hk810:Keeps w8 W10:=HKX.out.new hk910 (fun j hj=>by omega)
 have hr10k:=hr10.take (k:=k) (by omega)
 rw [← hW10]
 have HR10:=Lib.hid hr10k
 have HK810:=Lib.hid hk810
 have HC1B:=Lib.hid (isBs_take hC1b k)
 have hkl:(C1.take k).length=k:=by rw [List.length_take];omega
 have HKL:=Lib.hid hkl
 have hcm:=HCM.out
 clear hW10 hk910 hC1 hr10 hC1b hk810 hr10k hkl HR2 HR2' HG2
 go_upto_region 15 with fail
 have hkw10:Keeps w W10:=(HKW7.out.trans HK8.out).trans HK810.out
 have HKW10:=Lib.hid hkw10
 have hb10:w8.heap.size ≤ W10.heap.size:=HK810.out.size
 clear hkw10
 go_wp2_with (first
  | (at_builtin;refine wpB_at rfl _ _ rfl w8.heap.size (.slice (some ⟨g,0,none⟩) k cap) (C1.take k) tl a7 cap7 rfl (by rw [← HTLL.out];rfl) HR10.out (HTL.out.keeps HKW10.out) HNIL.out (by rw [HKL.out,← HTLL.out];omega) hb10 ?_;intro v3 w11 hr3 hg3;have HR3:=Lib.hid hr3;have HG3:=Lib.hid hg3;have hk811:Keeps w8 w11:=HK810.out.new (Upd.of_row hg3) (fun j hj=>by have e:g=j:=Option.some.inj hj;omega);have HK811:=Lib.hid hk811;clear hr3 hg3 hk811)
  | (go_at_call 29;refine (store_len (HSIT1.out.rep.keeps (HK8.out.trans HK811.out))).mono ?_;rintro e' w12 ⟨rfl,rfl⟩)
  | fail)
 obtain ⟨C3,hC3⟩:∃ C3,C3=C1.take k ++ tl:=⟨_,rfl⟩
 have hc3b:IsBs C3:=by rw [hC3];exact isBs_app HC1B.out HIB.out
 have hc3l:C3.length=k + TL:=by rw [hC3,List.length_append,HKL.out,HTLL.out]
 have hr3:=HR3.out
 rw [← hC3] at hr3
 obtain ⟨g3,cap3,rfl,hb3,hc3,hg3l⟩:=hr3.shape (by omega)
 obtain ⟨a9,cap9,hsl,hat3⟩:=hr3.slice
 cases hsl
 have hld:=load_calls (HSIT1.out.rep.keeps (HK8.out.trans HK811.out)) (HSIT1.out.ord.keeps (HK8.out.trans HK811.out)) (some ⟨g3,0,none⟩) cap3 C3 hat3 hc3b (by omega) hc3
 obtain ⟨N3,hN3⟩:∃ N,N=C3.length:=⟨_,rfl⟩
 have HAT3:=Lib.hid hat3
 rw [← hN3] at hld hc3l ⊢
 have HLD:=Lib.hid hld
 have HN3:=Lib.hid hN3
 have HKW11:=Lib.hid ((HKW7.out.trans HK8.out).trans HK811.out)
 have HK711:=Lib.hid (HK8.out.trans HK811.out)
 have hN3b:N3 ≤ 420:=by omega
 clear hld hr3 hC3 hc3b hat3 HR3 HG3 hN3 hc3l
 refine HLD.out.mono ?_
 rintro e w12 hld
 rcases hld with ⟨hne,_⟩ | ⟨_,hno,rfl,hk12⟩ | ⟨_,T,M0,ids,hg,hh⟩
 ·exact absurd HSIT1.out.n hne
 ·clear hno
  go_wp2_with (first | (go_at_call 29;refine (store_len (HSIT1.out.rep.keeps (HK711.out.trans (by (exact kp))))).mono ?_;rintro e' w13 ⟨rfl,rfl⟩) | fail)
  go_ret
  exact ⟨rfl,by have hkw:=HKW11.out;(exact kp)⟩
 ·rcases hh with ⟨_,rfl,hk12⟩ | ⟨hpm,er,M',ids',F',hput,hres,hu,hS',hF'⟩
  ·clear hg
   go_wp2_with (first | (go_at_call 29;refine (store_len (HSIT1.out.rep.keeps (HK711.out.trans (by (exact kp))))).mono ?_;rintro e' w13 ⟨rfl,rfl⟩) | fail)
   go_ret
   exact ⟨rfl,by have hkw:=HKW11.out;(exact kp)⟩
  ·have hvv:T.perm.length=T.vars:=(readB_facts hg.good.read).1
   have hfw:=(readB_ok hg.good.read).few
   have hfo:=(readB_ok hg.good.read).form
   obtain ⟨d1,d2,d3,d4,d5,d6⟩:=hg.done HSIT1.out.rep.wf (by rw [HSIT1.out.n,← hpm,hvv]) (by rw [HLR.out.2];have q1:=HLR.out.1;have q2:=HN3.out;omega) hput
   subst d1
   rcases hres with ⟨_,z,hz,rfl⟩ | ⟨hq,_⟩
   case inr=>exact absurd rfl hq
   have hzo:=hg.edge (by rw [← HN3.out];omega) HSIT1.out.rep.wf hput d2 hS'.few
   rw [← hz] at hzo d4 d5
   have hO12:=(HSIT1.out.ord.keeps HK711.out).keep hu (fun j h1 h2=>HSIT1.out.dis j h2 h1)
   have hsv2:=fun (W:World) (hW:Keeps w12 W)=>save_calls (hS'.keeps hW) (hO12.keeps hW) (T.form:Int) (by omega) z hzo
   have hc2:saveCode M' ps.length (T.form:Int) z=0:=by
    unfold saveCode
    rw [if_pos (by rw [d3.n];exact HSIT1.out.n),if_pos (by unfold isFormB;simp;omega),if_pos d4]
   rw [hpm] at d5
   have hsv3:∀ W,Keeps w12 W → Calls Tryz.prog 25 #[.pointer (some ⟨sb,0,none⟩),.pointer (some ⟨ob,0,none⟩),.int .u8 (T.form:Int),.agg #[.int .u8 z.tag,.int .u32 z.to]] W fun r w'=>∃ a4 cap4,r=.returned (.tuple #[.slice a4 N3 cap4,.int .u8 0]) ∧ BsAt w' a4 C3 ∧ Keeps W w':=fun W hW=>(hsv2 W hW).mono fun r w' hh=>by
    rcases hh with ⟨_,v,rfl,hx,hk⟩ | ⟨hq,_⟩
    ·obtain ⟨a4,cap4,rfl,hat⟩:=hx.slice
     rw [d5] at hat ⊢
     rw [← HN3.out]
     exact ⟨a4,cap4,rfl,hat,hk⟩
    ·exact absurd hc2 hq
   have HSV3:=Lib.hid hsv3
   have hl3:w8.heap.size ≤ g3:=hb3
   have nF3:¬ F1 g3:=fun hh=>by have:=HSIT1.out.rep.lt _ hh;have:=HK8.out.size;omega
   have hat12:BsAt w12 (some ⟨g3,0,none⟩) C3:=fun j q hq=>by
    obtain ⟨b,off,e1,e2⟩:=HAT3.out j q hq
    cases e1
    exact ⟨g3,0,rfl,hu.cellAt nF3 e2⟩
   have HAT12:=Lib.hid hat12
   have HKW12:Hid (Keeps w w12):=Lib.hid (HKW11.out.new hu (fun j hj=>HLOW1.out j hj))
   have hs04:=fun (W:World) (hW:Keeps w12 W) (a4:Option Addr) (c4:Nat) (h4:BsAt W a4 C3)=>same04_calls a4 (some ⟨g3,0,none⟩) c4 cap3 C3 C3 W h4 (HAT12.out.keeps hW) (by rw [← HN3.out];omega) (by rw [← HN3.out];omega)
   have HS04:=Lib.hid hs04
   rw [← HN3.out,decide_eq_true rfl] at HS04
   clear hvv hfw d2 d3 d4 d5 d6 hput hz hzo hO12 hsv2 hc2 hsv3 hat12 hs04 hu hS' hF' hg hpm
   go_wp2_with (first
    | (go_at_call 25;refine (HSV3.out _ (by (exact kp))).mono ?_;rintro e' w13 ⟨a13,cap13,rfl,hat13,hk13⟩;have HA13:=Lib.hid hat13;clear hat13)
    | (go_at_call 18;refine (HS04.out _ (by (exact kp)) _ _ HA13.out).mono ?_;rintro e' w14 ⟨rfl,hk14⟩)
    | fail)
   go_ret
   exact ⟨rfl,by have hkw:=HKW12.out;(exact kp)⟩

set_option maxRecDepth 100000 in
theorem saveSpoilt_out (a1:Option Addr) (cap1:Nat) (ps:List Int) (f a at_ by_ cut:Int) (a7:Option Addr) (l7 cap7:Nat) (w:World) (hps:IntsAt w a1 ps) (h:5 < ps.length ∨ permB ps=false ∨ f < 1 ∨ 5 < f ∨ 9 < l7) :
  Calls Tryz.prog 5 #[.slice a1 ps.length cap1,.int .u8 f,.int .u64 a,.int .u8 at_,.int .u8 by_,.int .u8 cut,.slice a7 l7 cap7] w fun e w'=>e=.returned (.bool true) ∧ Keeps w w':=by
 by_cases h5:5 < ps.length
 ·have g1:(5:Int) < (ps.length:Int):=by omega
  clear h
  go_enter Tryz.func5,Tryz.ntmps5
  go_wp2_with fail
  refine (l28_alive _).mono ?_
  rintro e w1 ⟨rfl,hk1⟩
  go_wp2_with fail
  all_goals (go_ret;exact ⟨rfl,by (exact kp)⟩)
 ·have HRP:=Lib.hid (fun (W:World) (hW:Keeps w W)=>refRight_calls a1 cap1 ps W (hps.keeps hW) (by omega))
  have g1:¬ (5:Int) < (ps.length:Int):=by omega
  cases hp:permB ps with
  | false=>
   rw [hp] at HRP
   clear h hp
   go_enter Tryz.func5,Tryz.ntmps5
   go_wp2_with fail
   refine (l28_alive _).mono ?_
   rintro e w1 ⟨rfl,hk1⟩
   go_wp2_with (first | (go_at_call 14;refine (HRP.out _ hk1).mono ?_;rintro e w2 ⟨rfl,rfl⟩) | fail)
   all_goals (go_ret;exact ⟨rfl,by (exact kp)⟩)
  | true=>
   rw [hp] at HRP h
   go_enter Tryz.func5,Tryz.ntmps5
   go_wp2_with fail
   refine (l28_alive _).mono ?_
   rintro e w1 ⟨rfl,hk1⟩
   by_cases h1:f < 1
   ·clear h
    go_wp2_with (first | (go_at_call 14;refine (HRP.out _ hk1).mono ?_;rintro e w2 ⟨rfl,rfl⟩) | fail)
    all_goals (go_ret;exact ⟨rfl,by (exact kp)⟩)
   ·by_cases h6:5 < f
    ·clear h
     go_wp2_with (first | (go_at_call 14;refine (HRP.out _ hk1).mono ?_;rintro e w2 ⟨rfl,rfl⟩) | fail)
     all_goals (go_ret;exact ⟨rfl,by (exact kp)⟩)
    ·have h9:(9:Int) < (l7:Int):=by
      rcases h with h | h | h | h | h
      ·exact absurd h h5
      ·cases h
      ·exact absurd h h1
      ·exact absurd h h6
      ·omega
     clear h
     go_wp2_with (first | (go_at_call 14;refine (HRP.out _ hk1).mono ?_;rintro e w2 ⟨rfl,rfl⟩) | fail)
     all_goals (go_ret;exact ⟨rfl,by (exact kp)⟩)

theorem saveSpoilt_walk (a1:Option Addr) (l1 cap1:Nat) (ps:List Int) (f a at_ by_ cut:Int) (a7:Option Addr) (l7 cap7:Nat) (tl:List Int) (w:World) (hps:IsInts w a1 l1 ps) (hf:(Lit.int .u8 f).wf=true) (ha:(Lit.int .u64 a).wf=true) (hat:(Lit.int .u8 at_).wf=true) (hby:(Lit.int .u8 by_).wf=true) (hcut:(Lit.int .u8 cut).wf=true) (hbs:IsBytes w a7 l7 cap7 tl) :
  Calls Tryz.prog 5 #[.slice a1 l1 cap1,.int .u8 f,.int .u64 a,.int .u8 at_,.int .u8 by_,.int .u8 cut,.slice a7 l7 cap7] w fun e w'=>e=.returned (.bool true) ∧ Keeps w w':=by
 have hmin:IntKind.u8.min=0:=rfl
 have hmax:IntKind.u8.max=255:=rfl
 have hmin6:IntKind.u64.min=0:=rfl
 have hmax6:IntKind.u64.max=18446744073709551615:=rfl
 have hf2:0 ≤ f ∧ f ≤ 255:=by simp [Lit.wf,hmin,hmax] at hf;exact hf
 have hau:0 ≤ a ∧ a ≤ 18446744073709551615:=by simp [Lit.wf,hmin6,hmax6] at ha;exact ha
 have hat2:0 ≤ at_ ∧ at_ ≤ 255:=by simp [Lit.wf,hmin,hmax] at hat;exact hat
 have hby2:0 ≤ by_ ∧ by_ ≤ 255:=by simp [Lit.wf,hmin,hmax] at hby;exact hby
 have hcut2:0 ≤ cut ∧ cut ≤ 255:=by simp [Lit.wf,hmin,hmax] at hcut;exact hcut
 obtain ⟨rfl,hI,-⟩:=hps
 by_cases h:5 < ps.length ∨ permB ps=false ∨ f < 1 ∨ 5 < f ∨ 9 < l7
 ·exact saveSpoilt_out a1 cap1 ps f a at_ by_ cut a7 l7 cap7 w hI h
 ·have hnil:=hbs.2.2
  obtain ⟨rfl,hba,hib,-⟩:=hbs.at'
  have hp:permB ps=true:=by
   cases hp:permB ps with
   | true=>rfl
   | false=>exact absurd (.inr (.inl hp)) h
  exact saveSpoilt_in a1 cap1 ps f a at_ by_ cut a7 cap7 tl w hI (by omega) hp (by omega) hau.1 hau.2 hat2 hby2 hcut2 hba hib hnil (by omega)

set_option maxRecDepth 100000 in
theorem saveSpoilt_lifted (os:Os) (started:os.Started) (H:Type) (enc:TypeId × Value → H) :
  ReturnsInHanded {} Tryz.checked os 5 .any (Rows.saveSpoiltSpec.pre6 enc Tryz.prog Tryz.f5 Rows.saveSpoiltRow.domain false) (Rows.saveSpoiltSpec.post enc Tryz.prog Tryz.f5 false true false false):=by
 refine returnsInHanded_of_change (C:=Tryz.checked) own started (by kernel_rfl) Tryz.func5
  (ChangeSpec.witness6 (enc:=enc) (C:=Tryz.checked) false ⟨#[],#[.slice none 0 0,.int .u8 0,.int .u64 0,.int .u8 0,.int .u8 0,.int .u8 0,.slice none 0 0],[]⟩ 12 (by kernel_rfl) (by kernel_rfl) (by kernel_rfl) (by kernel_rfl)) ?_
 intro W base args ds gs before hval0 hW hcnd _
 have hval:∀ (j:Nat) t v,Tryz.f5.params[j]?=some t → args[j]?=some v → Value.okWide Tryz.prog W .any base t v:=hval0
 have hW':=hW
 obtain ⟨p,q,hA0,hV,rfl,hfz,hnd⟩:=hW
 have hA:DataW.TrodAll enc Tryz.prog W 0 (fun _=>true) true Tryz.f5.params.toList args.toList ds p:=hA0
 rw [Tryz.params5] at hA hval
 have hAk:=hA
 obtain ⟨v0,vs0,d0,ds0,p0,q0,hargs,rfl,rfl,h0,r0⟩:=trodAll_cons hA
 obtain ⟨v1,vs1,d1,ds1,p1,q1,rfl,rfl,rfl,h1,r1⟩:=trodAll_cons r0
 obtain ⟨v2,vs2,d2,ds2,p2,q2,rfl,rfl,rfl,h2,r2⟩:=trodAll_cons r1
 obtain ⟨v3,vs3,d3,ds3,p3,q3,rfl,rfl,rfl,h3,r3⟩:=trodAll_cons r2
 obtain ⟨v4,vs4,d4,ds4,p4,q4,rfl,rfl,rfl,h4,r4⟩:=trodAll_cons r3
 obtain ⟨v5,vs5,d5,ds5,p5,q5,rfl,rfl,rfl,h5,r5⟩:=trodAll_cons r4
 obtain ⟨v6,vs6,d6,ds6,p6,q6,rfl,rfl,rfl,h6,r6⟩:=trodAll_cons r5
 obtain ⟨rfl,rfl,rfl⟩:=trodAll_nil r6
 obtain rfl:args=#[v0,v1,v2,v3,v4,v5,v6]:=by cases args;simp_all
 obtain ⟨rfl,rfl⟩:=trodVars_none hV
 obtain ⟨a0,len0,cap0,rfl⟩:=okWide_slice Tryz.underlying23 (hval 0 23 v0 rfl rfl)
 obtain ⟨rs0,w0⟩:=open_intRow h0
 obtain ⟨a1,rfl,rfl,rfl,w1⟩:=open_int Tryz.underlying5 (hval 1 5 v1 rfl rfl) h1
 obtain ⟨a2,rfl,rfl,rfl,w2⟩:=open_int Tryz.underlying60 (hval 2 60 v2 rfl rfl) h2
 obtain ⟨a3,rfl,rfl,rfl,w3⟩:=open_int Tryz.underlying5 (hval 3 5 v3 rfl rfl) h3
 obtain ⟨a4,rfl,rfl,rfl,w4⟩:=open_int Tryz.underlying5 (hval 4 5 v4 rfl rfl) h4
 obtain ⟨a5,rfl,rfl,rfl,w5⟩:=open_int Tryz.underlying5 (hval 5 5 v5 rfl rfl) h5
 obtain ⟨a6,len6,cap6,rfl⟩:=okWide_slice Tryz.underlying24 (hval 6 24 v6 rfl rfl)
 obtain ⟨rs6,w6⟩:=open_bytes h6
 clear hA0 hval0
 refine (saveSpoilt_walk a0 len0 cap0 rs0 a1 a2 a3 a4 a5 a6 len6 cap6 rs6 W w0 w1 w2 w3 w4 w5 w6).mono fun e W' ⟨he,bel⟩=>?_
 subst he
 exact ⟨_,rfl,_,_,_,[],_,[],hW',trodAll_mk1 (shut_bool Tryz.underlying4 _),trodAll_below laidOut bel _ _ _ _ (by kernel_rfl) hAk,rfl,Below.frame bel _,fun h=>by cases h⟩

set_option maxHeartbeats 8000000 in
theorem saveSpoilt_over:Rows.saveSpoiltRow.holds Tryz.pinned (OpenSpec.ofChange Rows.saveSpoiltSpec):=
 OpenClaim.holds_of_wide 5 Tryz.f5 rfl rfl rfl rfl rfl rfl rfl ⟨rfl,rfl,rfl,rfl,rfl⟩ rfl rfl rfl rfl rfl (by as_aux_lemma=>kernel_rfl) Tryz.func5 (by unfold joinedFacts;(repeat' with_reducible refine Bool.and_eq_true_iff.2 ⟨?_,?_⟩);all_goals as_aux_lemma=>kernel_rfl)
  (of_decide_eq_true (by as_aux_lemma=>kernel_rfl)) (by unfold Func.isWrapper;first | (rw [if_pos (by decide +kernel)];kernel_rfl) | (rw [if_neg (by decide +kernel)];exact ⟨rfl,rfl⟩))
  (fun os started H enc _=>saveSpoilt_lifted os started H enc)

theorem saveSpoilt_proved:Rows.SaveSpoiltSaid:=saveSpoilt_over

end Go.Proofs.YtfpjogpjocedaaaGreat
