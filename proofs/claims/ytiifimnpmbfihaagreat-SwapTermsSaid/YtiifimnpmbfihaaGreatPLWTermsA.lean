/-
  SwapTerms: inputs that are asked about: another order and back.
-/
import Derived.Test.YtiifimnpmbfihaaGreatPSwapL
import Derived.Test.YtiifimnpmbfihaaGreatPTermsS
import Derived.Test.YtiifimnpmbfihaaGreatRows
namespace Go.Proofs.YtiifimnpmbfihaaGreat
set_option linter.unusedSimpArgs false
set_option linter.unusedVariables false
set_option maxHeartbeats 600000
open Go.ChangeShapes Go.WideShapes Go.ChangeAt Go.RowKit

set_option maxRecDepth 100000 in
set_option maxHeartbeats 8000000 in
theorem swapTerms_in (a1:Option Addr) (cap1:Nat) (ps:List Int) (a2:Option Addr) (cap2:Nat) (qs:List Int) (f g a b:Int) (w:World) (hps:IntsAt w a1 ps) (hqs:IntsAt w a2 qs) (h5:ps.length ≤ 5) (hql:qs.length=ps.length) (hp:permB ps=true) (hq:permB qs=true) (hf:1 ≤ f ∧ f ≤ 5) (hg:1 ≤ g ∧ g ≤ 5) (ha:0 ≤ a) (ha2:a ≤ 18446744073709551615) (hb:0 ≤ b) (hb2:b ≤ 18446744073709551615) :
  Calls Tryz.prog 10 #[.slice a1 ps.length cap1,.slice a2 ps.length cap2,.int .u8 f,.int .u8 g,.int .u64 a,.int .u64 b] w fun e w'=>e=.returned (.bool true) ∧ Keeps w w':=by
 have hrp:=fun (W:World) (hW:Keeps w W)=>refRight_calls a1 cap1 ps W (hps.keeps hW) (by omega)
 have hrq:=fun (W:World) (hW:Keeps w W)=>refRight_calls a2 cap2 qs W (hqs.keeps hW) (by omega)
 have hst:=fun (W:World) (hW:Keeps w W)=>stage_calls 12000 a1 cap1 ps W (hps.keeps hW) hp (by omega) (by omega)
 have hba:=fun (W:World)=>bits_calls ps.length (by omega) a ha ha2 W
 have hbb:=fun (W:World)=>bits_calls ps.length (by omega) b hb hb2 W
 have hsp:=fun (x:Option Addr) (c:Nat) (W:World) (hW:Keeps w W) (hI:IntsAt W x ps)=>by
  have:=refSame_calls x a1 c cap1 ps ps W hI (hps.keeps hW) (by omega) (by omega)
  rw [decide_eq_true rfl] at this
  exact this
 have hsq:=fun (x:Option Addr) (c:Nat) (W:World) (hW:Keeps w W) (hI:IntsAt W x qs)=>by
  have:=refSame_calls x a2 c cap2 qs qs W hI (hqs.keeps hW) (by omega) (by omega)
  rw [decide_eq_true rfl,hql] at this
  exact this
 rw [hp] at hrp
 rw [hq,hql] at hrq
 have hp5:2 ^ ps.length ≤ 2 ^ 5:=Nat.pow_le_pow_right (by decide) h5
 have e5:(2:Nat) ^ 5=32:=rfl
 rw [e5] at hp5
 have hp1:1 ≤ 2 ^ ps.length:=Nat.pow_pos (by decide)
 have hof:=fun (B:Nat) (bs:List Bool) (hbl:bs.length=2 ^ ps.length) (W:World) (hB:BoolsAt W B bs)=>by
  have:=setOf_calls (ps.length:Int) B (2 ^ ps.length) bs W hB (by omega) (by omega)
  rw [hbl] at this
  exact this
 have hbo:=fun (f:Int) (hf:1 ≤ f ∧ f ≤ 5) (os:List Int) (hol:os.length=ps.length) (F Fo:Nat → Prop) (W:World) (sb ob:Nat) (M:St) (G:Nat) (bs:List Bool) (hbl:bs.length=2 ^ ps.length) (hS:Sit F Fo W sb ob M os) (hU:RowU W G (wordsL bs)) (hG:¬ F G) (hroom:M.len + 31 ≤ M.room)=>by
  have hwl:(wordsL bs).length ≤ 1048576:=by rw [wordsL_len,hbl];omega
  have:=buildOf_calls hS.rep hS.ord hS.dis hS.n f (by simp [isFormB];omega) (some ⟨G,0,none⟩) (wordsL bs).length (wordsL bs).length rfl hwl (hU.words (fun x hx=>wordsL_range hx)) (fun b off e hh=>by cases e;exact hG hh) (by rw [hol];exact setOkB_words (by omega) hbl) (by rw [hol];omega)
  rw [hol] at this
  exact this
 obtain ⟨K,hK⟩:∃ K,K=ps.length:=⟨_,rfl⟩
 obtain ⟨p,hpp⟩:∃ p,p=2 ^ K:=⟨_,rfl⟩
 rw [← hK] at hrp hrq hst hba hbb hsp hsq h5 hp5 hp1 ⊢
 simp only [← hK] at hof hbo
 rw [← hpp] at hba hbb hp5 hp1
 simp only [← hpp] at hof hbo
 have HRP:=Lib.hid hrp
 have HRQ:=Lib.hid hrq
 have HST:=Lib.hid hst
 have HBA:=Lib.hid hba
 have HBB:=Lib.hid hbb
 have HSP:=Lib.hid hsp
 have HSQ:=Lib.hid hsq
 have HOF:=Lib.hid hof
 have HBO:=Lib.hid hbo
 have HK:=Lib.hid hK
 have HPP:=Lib.hid hpp
 have HP:=Lib.hid hp
 have HQ:=Lib.hid hq
 have HQL:=Lib.hid hql
 have HPS:=Lib.hid hps
 have HQS:=Lib.hid hqs
 have HF:=Lib.hid hf
 have HG:=Lib.hid hg
 have f1:¬ f < 1:=by omega
 have f5:¬ 5 < f:=by omega
 have g1:¬ g < 1:=by omega
 have g5:¬ 5 < g:=by omega
 clear hrp hrq hst hba hbb hsp hsq hof hbo hK hpp hp hq hql hps hqs e5
 go_enter Tryz.func10,Tryz.ntmps10
 go_wp2_with fail
 refine (l26_alive _).mono ?_
 rintro e w1 ⟨rfl,hk1⟩
 go_wp2_with fail
 refine (HRP.out _ hk1).mono ?_
 rintro e w11 ⟨rfl,rfl⟩
 go_wp2_with fail
 refine (HRQ.out _ hk1).mono ?_
 rintro e w12 ⟨rfl,rfl⟩
 go_wp2_with fail
 refine (HST.out _ hk1).mono ?_
 rintro e w3 ⟨sb,ob,F,Fo,rfl,hk3,hS,hO,hdis,hFl,hFo⟩
 have kw3:=hk1.trans hk3
 have hlo0:∀ k,F k ∨ Fo k → w.heap.size ≤ k:=fun k hk=>by
  have:=hk1.size
  rcases hk with hk | hk
  ·have:=hFl k hk;omega
  ·have:=hFo k hk;omega
 have hsit0:Sit F Fo w3 sb ob (St.new (K:Int) 12000) ps:=⟨hS,hO,hdis,by show (K:Int)=_;rw [HK.out],by show (12000:Int) < 1048576;decide⟩
 have HSIT0:=Lib.hid hsit0
 have HLO0:=Lib.hid hlo0
 clear hS hO hdis hFl hFo hk3 hsit0 hlo0
 go_wp2_with fail
 refine (HBA.out _).mono ?_
 rintro e w4 ⟨bs,hbl,rfl,hB,hk4⟩
 go_wp2_with fail
 refine (HBB.out _).mono ?_
 rintro e w5 ⟨cs,hcl,rfl,hC,hk5⟩
 have hB5:=hB.keep (Keeps.upd hk5 (fun _=>False)) (fun h=>h)
 have HB:=Lib.hid hB5
 have HC:=Lib.hid hC
 have HBL:=Lib.hid hbl
 have HCL:=Lib.hid hcl
 have hk35:=hk4.trans hk5
 have kw5:=kw3.trans hk35
 have HOF1:=Lib.hid (HOF.out _ bs hbl _ hB5)
 clear hB hC hB5 hbl hcl
 go_wp2_with fail
 refine HOF1.out.mono ?_
 rintro e w6 ⟨G1,hG1,rfl,hU1,hk6⟩
 have hk36:=hk35.trans hk6
 have s34:=hk4.size
 have s45:=hk5.size
 have hsit6:=HSIT0.out.keeps hk36
 have nG1:¬ F G1:=fun hh=>by have:=HSIT0.out.rep.lt _ hh;omega
 have HBO1:=Lib.hid (HBO.out f HF.out ps HK.out.symm F Fo w6 sb ob _ G1 bs HBL.out hsit6 hU1 nG1 (by show (0:Int) + 31 ≤ 12000;decide))
 have HSIT6:=Lib.hid hsit6
 clear hU1 nG1 hsit6 hk4 hk5
 go_wp2_with fail
 refine HBO1.out.mono ?_
 rintro e w7 ⟨x,M1,rfl,hxok,hbt1,⟨hgr1,-⟩,hst1⟩
 obtain ⟨F1,hsit1,sub1,upd1⟩:=sit_built HSIT6.out hgr1 hst1
 have kw6:=kw5.trans hk6
 have low1:=low_next HLO0.out kw6.size sub1
 have kw7:=kw6.new upd1 HLO0.out
 have hltF:∀ k,F k ∨ Fo k → k < w3.heap.size:=fun k hk=>by
  rcases hk with hk | hk
  ·exact HSIT0.out.rep.lt k hk
  ·exact HSIT0.out.ord.lt k hk
 have hFoL:∀ k,Fo k → k < w3.heap.size:=fun k hk=>hltF k (.inr hk)
 have s36:=hk36.size
 have s67:=upd1.size
 have hBw:∀ W,Upd (fun j=>F j ∨ Fo j) w6 W → BoolsAt W w3.heap.size bs:=fun W hW=>(HB.out.keep (Keeps.upd hk6 (fun _=>False)) (fun h=>h)).keep hW (fun hh=>by have:=hltF _ hh;omega)
 have hCw:∀ W,Upd (fun j=>F j ∨ Fo j) w6 W → BoolsAt W w4.heap.size cs:=fun W hW=>(HC.out.keep (Keeps.upd hk6 (fun _=>False)) (fun h=>h)).keep hW (fun hh=>by have:=hltF _ hh;omega)
 have hsx:=built_stands hsit1.rep.wf HF.out HP.out hsit1.n hxok hbt1
 have hl1:M1.len ≤ 31:=by
  have:=hgr1.len
  have h32:2 ^ ps.length ≤ 32:=by rw [← HK.out,← HPP.out];exact hp5
  have h0:(St.new (K:Int) 12000).len=0:=rfl
  omega
 have hr1:M1.room=12000:=hgr1.room
 have kW7:Keeps w7 (w7.alloc (.cells #[.int .u8 x.tag,.int .u32 x.to] 26)):=(Keeps.refl _).alloc _
 have x0:(w7.alloc (.cells #[.int .u8 x.tag,.int .u32 x.to] 26)).cell? ⟨w7.heap.size,0,none⟩=some (.int .u8 x.tag):=by simp [go_sem]
 have x1:(w7.alloc (.cells #[.int .u8 x.tag,.int .u32 x.to] 26)).cell? ⟨w7.heap.size,1,none⟩=some (.int .u32 x.to):=by simp [go_sem]
 have sW7:(w7.alloc (.cells #[.int .u8 x.tag,.int .u32 x.to] 26)).heap.size=w7.heap.size + 1:=by simp
 have HOF2:=Lib.hid (HOF.out _ cs HCL.out _ ((hCw w7 upd1).keep (Keeps.upd kW7 (fun _=>False)) (fun h=>h)))
 have HSIT1:=Lib.hid hsit1
 have HSX:=Lib.hid hsx
 have HBW:=Lib.hid hBw
 have HCW:=Lib.hid hCw
 have HSUB1:=Lib.hid sub1
 have HUPD1:=Lib.hid upd1
 have HLOW1:=Lib.hid low1
 have HFOL:=Lib.hid hFoL
 obtain ⟨W7,hW7⟩:∃ W,W=w7.alloc (.cells #[.int .u8 x.tag,.int .u32 x.to] 26):=⟨_,rfl⟩
 rw [← hW7] at kW7 x0 x1 sW7 HOF2
 have HW7:=Lib.hid hW7
 clear hsit1 sub1 upd1 low1 hltF hFoL hBw hCw hsx hst1 hgr1 hbt1 hW7
 go_wp2_with fail
 rw [← HW7.out]
 refine HOF2.out.mono ?_
 rintro e w8 ⟨G2,hG2,rfl,hU2,hk8⟩
 have hk78:=kW7.trans hk8
 have hsit8:=HSIT1.out.keeps hk78
 have nG2:¬ F1 G2:=fun hh=>by have:=HSIT1.out.rep.lt _ hh;omega
 have HBO2:=Lib.hid (HBO.out g HG.out ps HK.out.symm F1 Fo w8 sb ob M1 G2 cs HCL.out hsit8 hU2 nG2 (by omega))
 have HSIT8:=Lib.hid hsit8
 replace x0:=hk8.cell x0
 replace x1:=hk8.cell x1
 clear hU2 nG2 hsit8
 go_wp2_with fail
 refine HBO2.out.mono ?_
 rintro e w9 ⟨y,M2,rfl,hyok,hbt2,⟨hgr2,-⟩,hst2⟩
 obtain ⟨F2,hsit2,sub2,upd2⟩:=sit_built HSIT8.out hgr2 hst2
 have kw8:=kw7.trans hk78
 have low2:=low_next HLOW1.out kw8.size sub2
 have kw9:=kw8.new upd2 HLOW1.out
 have s78:=hk8.size
 have s89:=upd2.size
 have nF1x:¬ (F1 w7.heap.size ∨ Fo w7.heap.size):=fun hh=>by
  rcases hh with hh | hh
  ·have:=HSIT1.out.rep.lt _ hh;omega
  ·have:=HFOL.out _ hh;omega
 replace x0:=upd2.cellAt nF1x x0
 replace x1:=upd2.cellAt nF1x x1
 have hsy:=built_stands hsit2.rep.wf HG.out HP.out hsit2.n hyok hbt2
 have hsx2:=HSX.out.ext HSIT1.out.rep.wf hgr2.ext
 have hl2:M2.len ≤ 62:=by
  have:=hgr2.len
  have h32:2 ^ ps.length ≤ 32:=by rw [← HK.out,← HPP.out];exact hp5
  omega
 have hr2:M2.room=12000:=hgr2.room.trans hr1
 have u69:Upd (fun j=>F j ∨ Fo j) w6 w9:=upd_chain HSUB1.out HUPD1.out (((hk78.upd _).trans' upd2))
 have HU69:=Lib.hid u69
 have kW9:Keeps w9 (w9.alloc (.cells #[.int .u8 y.tag,.int .u32 y.to] 26)):=(Keeps.refl _).alloc _
 have y0:(w9.alloc (.cells #[.int .u8 y.tag,.int .u32 y.to] 26)).cell? ⟨w9.heap.size,0,none⟩=some (.int .u8 y.tag):=by simp [go_sem]
 have y1:(w9.alloc (.cells #[.int .u8 y.tag,.int .u32 y.to] 26)).cell? ⟨w9.heap.size,1,none⟩=some (.int .u32 y.to):=by simp [go_sem]
 have sW9:(w9.alloc (.cells #[.int .u8 y.tag,.int .u32 y.to] 26)).heap.size=w9.heap.size + 1:=by simp
 replace x0:=kW9.cell x0
 replace x1:=kW9.cell x1
 have HSIT2:=Lib.hid hsit2
 have HSY:=Lib.hid hsy
 have HSX2:=Lib.hid hsx2
 have HSUB2:=Lib.hid sub2
 have HLOW2:=Lib.hid low2
 have hlx:w7.heap.size < w9.heap.size + 1:=by omega
 have hlx2:w7.heap.size ≠ w9.heap.size + 1:=by omega
 have hlx3:w7.heap.size < w9.heap.size:=by omega
 clear hsit2 sub2 upd2 low2 hsx2 hsy hst2 hgr2 hbt2 u69 nF1x
 go_wp2_with fail
 obtain ⟨W10,hW10⟩:∃ W,W=(w9.alloc (.cells #[.int .u8 y.tag,.int .u32 y.to] 26)).alloc (.cells #[.int .u8 f,.int .u8 x.tag,.int .u32 x.to,.int .u8 g,.int .u8 y.tag,.int .u32 y.to] 95):=⟨_,rfl⟩
 rw [← hW10]
 have kW10:Keeps w9 W10:=by rw [hW10];exact kW9.alloc _
 replace x0:W10.cell? ⟨w7.heap.size,0,none⟩=some (.int .u8 x.tag):=by rw [hW10];exact ((Keeps.refl _).alloc _).cell x0
 replace x1:W10.cell? ⟨w7.heap.size,1,none⟩=some (.int .u32 x.to):=by rw [hW10];exact ((Keeps.refl _).alloc _).cell x1
 replace y0:W10.cell? ⟨w9.heap.size,0,none⟩=some (.int .u8 y.tag):=by rw [hW10];exact ((Keeps.refl _).alloc _).cell y0
 replace y1:W10.cell? ⟨w9.heap.size,1,none⟩=some (.int .u32 y.to):=by rw [hW10];exact ((Keeps.refl _).alloc _).cell y1
 have r0:W10.cell? ⟨w9.heap.size + 1,0,none⟩=some (.int .u8 f):=by rw [hW10];simp [go_sem]
 have r1:W10.cell? ⟨w9.heap.size + 1,1,none⟩=some (.int .u8 x.tag):=by rw [hW10];simp [go_sem]
 have r2:W10.cell? ⟨w9.heap.size + 1,2,none⟩=some (.int .u32 x.to):=by rw [hW10];simp [go_sem]
 have r3:W10.cell? ⟨w9.heap.size + 1,3,none⟩=some (.int .u8 g):=by rw [hW10];simp [go_sem]
 have r4:W10.cell? ⟨w9.heap.size + 1,4,none⟩=some (.int .u8 y.tag):=by rw [hW10];simp [go_sem]
 have r5:W10.cell? ⟨w9.heap.size + 1,5,none⟩=some (.int .u32 y.to):=by rw [hW10];simp [go_sem]
 have sW10:W10.heap.size=w9.heap.size + 2:=by rw [hW10];simp
 clear hW10
 have nB10:¬ (F2 (w9.heap.size + 1) ∨ Fo (w9.heap.size + 1)):=fun hh=>by
  rcases hh with hh | hh
  ·have:=HSIT2.out.rep.lt _ hh;omega
  ·have:=HFOL.out _ hh;omega
 have nBy:¬ (F2 w9.heap.size ∨ Fo w9.heap.size):=fun hh=>by
  rcases hh with hh | hh
  ·have:=HSIT2.out.rep.lt _ hh;omega
  ·have:=HFOL.out _ hh;omega
 have nBx:¬ (F2 w7.heap.size ∨ Fo w7.heap.size):=fun hh=>by
  rcases hh with hh | hh
  ·rcases HSUB2.out _ hh with q | q
   ·have:=HSIT1.out.rep.lt _ q;omega
   ·omega
  ·have:=HFOL.out _ hh;omega
 have hfr:=HF.out
 have hgr:=HG.out
 have hRI:RootsIn F2 Fo W10 (some ⟨w9.heap.size + 1,0,none⟩) [(f,x),(g,y)]:=fun W hW i r hr=>by
  rcases i with _ | _ | i
  ·simp at hr;subst hr
   exact ⟨by show 0 ≤ f ∧ f ≤ 255;omega,hxok,_,0,rfl,hW.cellAt nB10 r0,hW.cellAt nB10 r1,hW.cellAt nB10 r2⟩
  ·simp at hr;subst hr
   exact ⟨by show 0 ≤ g ∧ g ≤ 255;omega,hyok,_,0,rfl,hW.cellAt nB10 r3,hW.cellAt nB10 r4,hW.cellAt nB10 r5⟩
  ·simp at hr
 have kw10:=kw9.trans kW10
 have hQI:∀ W,Upd (fun j=>F2 j ∨ Fo j) W10 W → IntsAt W a2 qs:=fun W hW=>HQS.out.keeps (kw10.new hW HLOW2.out)
 have hlead2:∀ r ∈ [(f,x),(g,y)],(1 ≤ r.1 ∧ r.1 ≤ 5) ∧ M2.leads r.1 r.2 0=true:=fun r hr=>by
  simp at hr
  rcases hr with rfl | rfl
  ·exact ⟨HF.out,HSX2.out.lead⟩
  ·exact ⟨HG.out,HSY.out.lead⟩
 have hcall:=sit_permute (HSIT2.out.keeps kW10) (by rw [← HK.out];exact h5) HQL.out HQ.out a2 cap2 hQI (some ⟨w9.heap.size + 1,0,none⟩) 2 hRI rfl hlead2 (by omega)
 rw [← HK.out] at hcall
 have HCALL:=Lib.hid hcall
 clear hcall hQI hlead2 r0 r1 r2 r3 r4 r5
 refine HCALL.out.mono ?_
 rintro e w10 ⟨gx,es,M3,F3,ss,rfl,hrun,hst3,hl3⟩
 have sit3:=hst3.sit
 rw [hrun] at sit3
 have hel:=hst3.roots.1
 obtain ⟨l0,hl0⟩:∃ b,es[0]?=some b:=⟨_,List.getElem?_eq_getElem (by rw [hel];simp)⟩
 obtain ⟨l1,hl1e⟩:∃ b,es[1]?=some b:=⟨_,List.getElem?_eq_getElem (by rw [hel];simp)⟩
 have ro0:=hst3.roots.2 0 (f,x) l0 rfl hl0
 have ro1:=hst3.roots.2 1 (g,y) l1 rfl hl1e
 have hs0:=root_stands HSX2.out rfl ro0 hrun
 have hs1:=root_stands HSY.out rfl ro1 hrun
 have hwt:=hst3.went
 have sub3:=hst3.sub
 have low3:=low_next HLOW2.out kw10.size sub3
 have kwA:=kw10.new hst3.upd HLOW2.out
 replace x0:=hst3.upd.cellAt nBx x0
 replace x1:=hst3.upd.cellAt nBx x1
 replace y0:=hst3.upd.cellAt nBy y0
 replace y1:=hst3.upd.cellAt nBy y1
 have sub02:∀ j,F2 j → F j ∨ w6.heap.size ≤ j:=fun j hj=>by
  rcases HSUB2.out j hj with q | q
  ·exact HSUB1.out j q
  ·right;omega
 have u610:=upd_chain sub02 HU69.out ((kW10.upd _).trans' hst3.upd)
 have hE3:=hst3.edges
 have s10A:=hst3.upd.size
 have HSIT3:=Lib.hid sit3
 have HS0:=Lib.hid hs0
 have HS1:=Lib.hid hs1
 have HWT:=Lib.hid hwt
 have HSUB3:=Lib.hid sub3
 have HLOW3:=Lib.hid low3
 have HU610:=Lib.hid u610
 have HE3:=Lib.hid hE3
 have HL0:=Lib.hid hl0
 have HL1:=Lib.hid hl1e
 have HLEN3:=Lib.hid (show M3.len ≤ 3162 ∧ M3.room=12000 from ⟨by omega,by rw [hwt.room];exact hr2⟩)
 have hcall:=ordPerm_calls sit3.ord
 rw [HQL.out,← HK.out] at hcall
 have HC1:=Lib.hid hcall
 clear hst3 sit3 hs0 hs1 hwt sub3 low3 u610 hE3 hl0 hl1e ro0 ro1 hel hcall hl3 sub02
 go_wp2_with fail
 refine HC1.out.mono ?_
 rintro e w11 ⟨ap,cp,rfl,hrp,hk11⟩
 go_wp2_with fail
 refine (HSQ.out ap cp _ (kwA.trans hk11) hrp.ints).mono ?_
 rintro e w12 ⟨rfl,hk12⟩
 have hkA12:=hk11.trans hk12
 have kw12:=kwA.trans hkA12
 have HOF3:=Lib.hid (HOF.out _ bs HBL.out w12 (HBW.out _ (HU610.out.trans' (hkA12.upd _))))
 replace x0:=hkA12.cell x0
 replace x1:=hkA12.cell x1
 replace y0:=hkA12.cell y0
 replace y1:=hkA12.cell y1
 clear hrp
 go_wp2_with fail
 refine HOF3.out.mono ?_
 rintro e w13 ⟨G3,hG3,rfl,hU3,hk13⟩
 have hkA13:=hkA12.trans hk13
 have sA12:=hkA12.size
 have hsit13:=HSIT3.out.keeps hkA13
 have nG3:¬ F3 G3:=fun hh=>by have:=HSIT3.out.rep.lt _ hh;omega
 have hM3:=HLEN3.out
 have HBO3:=Lib.hid (HBO.out f HF.out qs (HQL.out.trans HK.out.symm) F3 Fo w13 sb ob M3 G3 bs HBL.out hsit13 hU3 nG3 (by omega))
 have HSIT13:=Lib.hid hsit13
 clear hU3 nG3 hsit13
 go_wp2_with fail
 refine HBO3.out.mono ?_
 rintro e w14 ⟨z,M4,rfl,hzok,hbt4,⟨hgr4,-⟩,hst4⟩
 obtain ⟨F4,hsit4,sub4,upd4⟩:=sit_built HSIT13.out hgr4 hst4
 have hs0':=(HS0.out.ext HWT.out.wf hgr4.ext)
 have hs1':=(HS1.out.ext HWT.out.wf hgr4.ext)
 have hfit4:=hsit4.rep.fit0
 have hl4:M4.len ≤ 3193:=by
  have:=hgr4.len
  have h32:2 ^ qs.length ≤ 32:=by rw [HQL.out,← HK.out,← HPP.out];exact hp5
  omega
 have hq5:qs.length ≤ 5:=by rw [HQL.out,← HK.out];exact h5
 have hsz:=built_stands hsit4.rep.wf HF.out HQ.out hsit4.n hzok hbt4
 have hzl:z=l0:=stands_one hsit4.rep.wf hfit4 HF.out HQ.out hsit4.n hq5 (by omega) hsz hs0' rfl
 subst hzl
 have kw13:=kw12.trans hk13
 have low4:=low_next HLOW3.out kw13.size sub4
 have kw14:=kw13.new upd4 HLOW3.out
 have hEd4:=((HE3.out.keeps hkA13).next sub4 upd4)
 have u614:Upd (fun j=>F j ∨ Fo j) w6 w14:=upd_chain (F1:=F3) (fun j hj=>by
  rcases HSUB3.out j hj with q | q
  ·rcases HSUB2.out j q with q | q
   ·exact HSUB1.out j q
   ·right;omega
  ·right;omega) HU610.out ((hkA13.upd _).trans' upd4)
 have nF3x:¬ (F3 w7.heap.size ∨ Fo w7.heap.size):=fun hh=>by
  rcases hh with hh | hh
  ·rcases HSUB3.out _ hh with q | q
   ·exact nBx (.inl q)
   ·omega
  ·have:=HFOL.out _ hh;omega
 have nF3y:¬ (F3 w9.heap.size ∨ Fo w9.heap.size):=fun hh=>by
  rcases hh with hh | hh
  ·rcases HSUB3.out _ hh with q | q
   ·exact nBy (.inl q)
   ·omega
  ·have:=HFOL.out _ hh;omega
 replace x0:=upd4.cellAt nF3x (hk13.cell x0)
 replace x1:=upd4.cellAt nF3x (hk13.cell x1)
 replace y0:=upd4.cellAt nF3y (hk13.cell y0)
 replace y1:=upd4.cellAt nF3y (hk13.cell y1)
 have nF4x:¬ (F4 w7.heap.size ∨ Fo w7.heap.size):=fun hh=>by
  rcases hh with hh | hh
  ·rcases sub4 _ hh with q | q
   ·exact nF3x (.inl q)
   ·have:=hkA13.size;omega
  ·exact nF3x (.inr hh)
 have nF4y:¬ (F4 w9.heap.size ∨ Fo w9.heap.size):=fun hh=>by
  rcases hh with hh | hh
  ·rcases sub4 _ hh with q | q
   ·exact nF3y (.inl q)
   ·have:=hkA13.size;omega
  ·exact nF3y (.inr hh)
 have hn4:=hsit4.n
 have hi0:=fun (W:World) (hW:Keeps w14 W)=>is18_calls (ws:=wordsL bs) (hsit4.rep.keeps hW) a2 cap2 (HQS.out.keeps (kw14.trans hW)) HQ.out (by omega) hn4 f HF.out hs0'.ok hs0'.lead hs0'.right (stands_text hsit4.rep HF.out HQ.out hn4 hq5 (by omega) hs0') (some ⟨w3.heap.size,0,none⟩) p (boolsIn_at ((HBW.out _ u614).keep (Keeps.upd hW (fun _=>False)) (fun h=>h)) (by rw [HQL.out,← HK.out,← HPP.out];exact HBL.out))
 have hi1:=fun (W:World) (hW:Keeps w14 W)=>is18_calls (ws:=wordsL cs) (hsit4.rep.keeps hW) a2 cap2 (HQS.out.keeps (kw14.trans hW)) HQ.out (by omega) hn4 g HG.out hs1'.ok hs1'.lead hs1'.right (stands_text hsit4.rep HG.out HQ.out hn4 hq5 (by omega) hs1') (some ⟨w4.heap.size,0,none⟩) p (boolsIn_at ((HCW.out _ u614).keep (Keeps.upd hW (fun _=>False)) (fun h=>h)) (by rw [HQL.out,← HK.out,← HPP.out];exact HCL.out))
 simp only [HQL.out,← HK.out,← HPP.out] at hi0 hi1
 have hB14:=HBW.out _ u614
 have hC14:=HCW.out _ u614
 obtain ⟨_,_,_,ea,c0,c1⟩:=hEd4.now 0 _ HL0.out
 cases ea
 obtain ⟨_,_,_,ea,c2,c3⟩:=hEd4.now 1 _ HL1.out
 cases ea
 have HI0:=Lib.hid hi0
 have HI1:=Lib.hid hi1
 have HB14:=Lib.hid hB14
 have HC14:=Lib.hid hC14
 have HSIT4:=Lib.hid hsit4
 have HS0':=Lib.hid hs0'
 have HS1':=Lib.hid hs1'
 have HLOW4:=Lib.hid low4
 have HLEN4:=Lib.hid (show M4.len ≤ 3193 ∧ M4.room=12000 from ⟨hl4,hgr4.room.trans HLEN3.out.2⟩)
 have HED4:=Lib.hid hEd4
 have HEXT4:=Lib.hid hgr4.ext
 have s14:=upd4.size
 clear hi0 hi1 hB14 hC14 hsit4 hs0' hs1' low4 hl4 hEd4 hgr4 hst4 hbt4 hsz hfit4 sub4 upd4 hM3
 simp only [Nat.zero_mul,Nat.zero_add,Nat.one_mul] at c0 c1 c2 c3
 go_wp2_with fail
 obtain ⟨W14,hW14⟩:∃ W,W=w14.alloc (.cells #[.int .u8 z.tag,.int .u32 z.to] 26):=⟨_,rfl⟩
 rw [← hW14]
 have kW14:Keeps w14 W14:=by rw [hW14];exact (Keeps.refl _).alloc _
 have z0:W14.cell? ⟨w14.heap.size,0,none⟩=some (.int .u8 z.tag):=by rw [hW14];simp [go_sem]
 have z1:W14.cell? ⟨w14.heap.size,1,none⟩=some (.int .u32 z.to):=by rw [hW14];simp [go_sem]
 clear hW14
 replace c0:=kW14.cell c0
 replace c1:=kW14.cell c1
 replace c2:=kW14.cell c2
 replace c3:=kW14.cell c3
 replace x0:=kW14.cell x0
 replace x1:=kW14.cell x1
 replace y0:=kW14.cell y0
 replace y1:=kW14.cell y1
 have hneq:∀ W,(binOp .neq 26 (.agg #[.int .u8 z.tag,.int .u32 z.to]) (.agg #[.int .u8 z.tag,.int .u32 z.to])).run Tryz.prog W=.ok (.bool false) W:=fun W=>by rw [run_neq_edge];simp
 have HIa:=Lib.hid (fun (W:World) (hW:Keeps W14 W)=>HI0.out W (kW14.trans hW))
 have HIb:=Lib.hid (fun (W:World) (hW:Keeps W14 W)=>HI1.out W (kW14.trans hW))
 have k0k:=KWorld.cell z0
 have k1k:=KWorld.cell z1
 have k2k:=KWorld.cell c0
 have k3k:=KWorld.cell c1
 have k4k:=KWorld.cell c2
 have k5k:=KWorld.cell c3
 refine wp_region_keeps (W14) (by kernel_rfl) (by kernel_rfl) (by (exact kp)) ?_;(repeat (go_big_quiet_step ((first | (go_at_call 41;first | (with_reducible refine Calls.keepsK (HIa.out _ (KWorld.keep _))) | (with_reducible refine Calls.keepsK (HIb.out _ (KWorld.keep _))))))));refine wpQuiet_nil ?_;rintro wq ⟨⟨_,hkq⟩,rfl⟩;try dsimp only
 clear k0k k1k k2k k3k k4k k5k z0 z1
 replace c0:=hkq.cell c0
 replace c1:=hkq.cell c1
 replace c2:=hkq.cell c2
 replace c3:=hkq.cell c3
 replace x0:=hkq.cell x0
 replace x1:=hkq.cell x1
 replace y0:=hkq.cell y0
 replace y1:=hkq.cell y1
 have hk14q:=kW14.trans hkq
 go_wp2_with fail
 obtain ⟨wA,hwA⟩:∃ W,W=wq:=⟨wq,rfl⟩
 have kA:Keeps w14 wA:=by rw [hwA];exact hk14q
 rw [← hwA] at c0 c1 c2 c3 x0 x1 y0 y1 ⊢
 clear hwA hk14q hkq HIa HIb hneq
 have kwA2:=kw14.trans kA
 have k2k:=KWorld.cell c0
 have k3k:=KWorld.cell c1
 have k4k:=KWorld.cell c2
 have k5k:=KWorld.cell c3
 by_cases hfg:f=g
 ·subst hfg
  have hEq:decide (z=l1)=sameL bs cs:=by
   have hst:=HS0'.out
   have hst1:=HS1'.out
   have hbl:bs.length=2 ^ qs.length:=by rw [HQL.out,← HK.out,← HPP.out];exact HBL.out
   have hcl:cs.length=2 ^ qs.length:=by rw [HQL.out,← HK.out,← HPP.out];exact HCL.out
   have hbt:hasT qs.length (hasB (wordsL bs))=bs:=setT_words hbl
   have hct:hasT qs.length (hasB (wordsL cs))=cs:=setT_words hcl
   by_cases he:z=l1
   ·subst he
    have:bs=cs:=by rw [← hbt,← hct,← hst.tab,← hst1.tab]
    rw [decide_eq_true rfl,sameL_iff.2 this]
   ·rw [decide_eq_false he]
    cases hs:sameL bs cs with
    | false=>rfl
    | true=>
     have hbc:=sameL_iff.1 hs
     have hM4:=HLEN4.out
     exact absurd (stands_one HSIT4.out.rep.wf HSIT4.out.rep.fit0 HF.out HQ.out HSIT4.out.n (by rw [HQL.out,← HK.out];exact h5) (by omega) hst hst1 (by rw [hbt,hct];exact hbc)) he
  have hb20:bs.length ≤ 1048576:=by rw [HBL.out];exact Nat.le_trans hp5 (by decide)
  have hc20:cs.length ≤ 1048576:=by rw [HCL.out];exact Nat.le_trans hp5 (by decide)
  have hsm:∀ W,Keeps wA W → Calls Tryz.prog 48 #[.slice (some ⟨w3.heap.size,0,none⟩) p p,.slice (some ⟨w4.heap.size,0,none⟩) p p] W fun e w'=>e=.returned (.bool (sameL bs cs)) ∧ Keeps W w':=fun W hW=>by
   have hTb:TabAt W w3.heap.size 0 bs:=ktabS (HB14.out.keep (Keeps.upd (kA.trans hW) (fun _=>False)) (fun h=>h))
   have hTc:TabAt W w4.heap.size 0 cs:=ktabS (HC14.out.keep (Keeps.upd (kA.trans hW) (fun _=>False)) (fun h=>h))
   have h:=same_calls p p W hTb hTc hb20 hc20
   rw [HBL.out,HCL.out] at h
   exact h
  obtain ⟨S,hS⟩:∃ S,S=sameL bs cs:=⟨_,rfl⟩
  rw [← hS] at hEq hsm
  have heql:∀ W,(binOp .eql 26 (.agg #[.int .u8 z.tag,.int .u32 z.to]) (.agg #[.int .u8 l1.tag,.int .u32 l1.to])).run Tryz.prog W=.ok (.bool S) W:=fun W=>by rw [run_eql_edge,hEq]
  have hSS:(S != S)=false:=by cases S <;> rfl
  have HSm:=Lib.hid hsm
  clear hsm hEq hS
  have hfd:decide (f=f)=true:=by simp
  refine wp_region_keeps (wA) (by kernel_rfl) (by kernel_rfl) (by (exact kp)) ?_;(repeat (go_big_quiet_step ((first | (go_at_call 48;with_reducible refine Calls.keepsK (HSm.out _ (KWorld.keep _)))))));refine wpQuiet_nil ?_;rintro wq ⟨⟨_,hkq⟩,rfl⟩;try dsimp only
  replace c0:=hkq.cell c0
  replace c1:=hkq.cell c1
  replace c2:=hkq.cell c2
  replace c3:=hkq.cell c3
  replace x0:=hkq.cell x0
  replace x1:=hkq.cell x1
  replace y0:=hkq.cell y0
  replace y1:=hkq.cell y1
  obtain ⟨wB,hwB⟩:∃ W,W=wq:=⟨wq,rfl⟩
  have kB:Keeps w14 wB:=by rw [hwB];exact kA.trans hkq
  rw [← hwB] at c0 c1 c2 c3 x0 x1 y0 y1 ⊢
  clear hwB hkq k2k k3k k4k k5k
  have hback:=terms_back (f:=f) (g:=f) (x:=x) (y:=y) HSIT4.out HED4.out HL0.out HL1.out HS0'.out HS1'.out (HSX2.out.ext HSIT2.out.rep.wf (HWT.out.ext.trans HEXT4.out)) (HSY.out.ext HSIT2.out.rep.wf (HWT.out.ext.trans HEXT4.out)) HF.out HG.out HP.out HQ.out HQL.out (by rw [← HK.out];exact h5) HLEN4.out.1 HLEN4.out.2 kw14 HLOW4.out (HPS.out) cap1 nF4x nF4y kB x0 x1 y0 y1
  rw [← HK.out] at hback
  have HBK:=Lib.hid hback
  have nwB:=kB.size
  have heqx:∀ W,(binOp .eql 26 (.agg #[.int .u8 x.tag,.int .u32 x.to]) (.agg #[.int .u8 x.tag,.int .u32 x.to])).run Tryz.prog W=.ok (.bool true) W:=fun W=>by rw [run_eql_edge];simp
  have heqy:∀ W,(binOp .eql 26 (.agg #[.int .u8 y.tag,.int .u32 y.to]) (.agg #[.int .u8 y.tag,.int .u32 y.to])).run Tryz.prog W=.ok (.bool true) W:=fun W=>by rw [run_eql_edge];simp
  have hgx:gx < wB.heap.size:=lt_of_cell c0
  clear hback
  go_wp2_with fail
  go_cut [27,28] (fun s27 s28 wx=>∃ g4,s27=.slice (some ⟨g4,0,none⟩) 2 2 ∧ s28=.int .u8 0 ∧ (wx.cell? ⟨g4,0,none⟩=some (.int .u8 x.tag) ∧ wx.cell? ⟨g4,1,none⟩=some (.int .u32 x.to) ∧ wx.cell? ⟨g4,2,none⟩=some (.int .u8 y.tag) ∧ wx.cell? ⟨g4,3,none⟩=some (.int .u32 y.to)) ∧ (wx.cell? ⟨w7.heap.size,0,none⟩=some (.int .u8 x.tag) ∧ wx.cell? ⟨w7.heap.size,1,none⟩=some (.int .u32 x.to) ∧ wx.cell? ⟨w9.heap.size,0,none⟩=some (.int .u8 y.tag) ∧ wx.cell? ⟨w9.heap.size,1,none⟩=some (.int .u32 y.to)) ∧ OrdRep Fo wx ob ps ∧ Keeps w wx)
  case first=>
   go_region_held3 (fun w'=>w'.cell? ⟨gx,0,none⟩=some (.int .u8 z.tag) ∧ w'.cell? ⟨gx,1,none⟩=some (.int .u32 z.to) ∧ w'.cell? ⟨gx,2,none⟩=some (.int .u8 l1.tag) ∧ w'.cell? ⟨gx,3,none⟩=some (.int .u32 l1.to)) (go_keep) ((first
    | (go_at_call 46;refine (HBK.out _ _ (by (exact kp)) (by simp) (by simp [go_sem]) (by simp [go_sem]) (by simp [go_sem]) (by simp [go_sem]) (by simp [go_sem]) (by simp [go_sem])).mono ?_;rintro e w' ⟨g4,rfl,hd,hxy,⟨c0',c1',c2',c3'⟩,hO5,kw5,hsz5⟩)))
   go_wp2_with fail
   go_meet
   exact ⟨g4,rfl,rfl,hd,hxy,hO5,kw5⟩
  case rest=>
   clear x0 x1 y0 y1 c0 c1 c2 c3
   obtain ⟨g4,rfl,rfl,⟨d0,d1,d2,d3⟩,⟨x0,x1,y0,y1⟩,hO5,kw5⟩:=hcut
   have hpm:=fun (W:World) (hW:Keeps wc W)=>ordPerm_calls (hO5.keeps hW)
   rw [← HK.out] at hpm
   have HPM:=Lib.hid hpm
   clear hpm hO5
   go_wp2_with fail
   go_region_held3 (fun w'=>w'.cell? ⟨g4,0,none⟩=some (.int .u8 x.tag) ∧ w'.cell? ⟨g4,1,none⟩=some (.int .u32 x.to) ∧ w'.cell? ⟨g4,2,none⟩=some (.int .u8 y.tag) ∧ w'.cell? ⟨g4,3,none⟩=some (.int .u32 y.to) ∧ w'.cell? ⟨w7.heap.size,0,none⟩=some (.int .u8 x.tag) ∧ w'.cell? ⟨w7.heap.size,1,none⟩=some (.int .u32 x.to) ∧ w'.cell? ⟨w9.heap.size,0,none⟩=some (.int .u8 y.tag) ∧ w'.cell? ⟨w9.heap.size,1,none⟩=some (.int .u32 y.to)) (go_keep) ((first
    | (go_at_call 47;refine (HPM.out _ (by (exact kp))).mono ?_;rintro e2 wp ⟨ap2,cp2,rfl,hrp2,hkp⟩;have hip:=hrp2.ints;have d0:=hkp.cell d0;have d1:=hkp.cell d1;have d2:=hkp.cell d2;have d3:=hkp.cell d3;have x0:=hkp.cell x0;have x1:=hkp.cell x1;have y0:=hkp.cell y0;have y1:=hkp.cell y1)
    | (go_at_call 35;refine (HSP.out _ _ _ (by (exact kp)) (IntsAt.keeps hip (by (exact kp)))).mono ?_;rintro e2 ws ⟨rfl,hks⟩;have d0:=hks.cell d0;have d1:=hks.cell d1;have d2:=hks.cell d2;have d3:=hks.cell d3;have x0:=hks.cell x0;have x1:=hks.cell x1;have y0:=hks.cell y0;have y1:=hks.cell y1)))
   all_goals (try go_wp2_with fail)
   all_goals go_ret
   all_goals exact ⟨rfl,by (exact kp)⟩
 ·have hfb:(f == g)=false:=by simp [hfg]
  refine wp_region_keeps (wA) (by kernel_rfl) (by kernel_rfl) (by (exact kp)) ?_;(repeat (go_big_quiet_step (fail)));refine wpQuiet_nil ?_;rintro wq ⟨⟨_,hkq⟩,rfl⟩;try dsimp only
  replace c0:=hkq.cell c0
  replace c1:=hkq.cell c1
  replace c2:=hkq.cell c2
  replace c3:=hkq.cell c3
  replace x0:=hkq.cell x0
  replace x1:=hkq.cell x1
  replace y0:=hkq.cell y0
  replace y1:=hkq.cell y1
  obtain ⟨wB,hwB⟩:∃ W,W=wq:=⟨wq,rfl⟩
  have kB:Keeps w14 wB:=by rw [hwB];exact kA.trans hkq
  rw [← hwB] at c0 c1 c2 c3 x0 x1 y0 y1 ⊢
  clear hwB hkq k2k k3k k4k k5k
  have hback:=terms_back (f:=f) (g:=g) (x:=x) (y:=y) HSIT4.out HED4.out HL0.out HL1.out HS0'.out HS1'.out (HSX2.out.ext HSIT2.out.rep.wf (HWT.out.ext.trans HEXT4.out)) (HSY.out.ext HSIT2.out.rep.wf (HWT.out.ext.trans HEXT4.out)) HF.out HG.out HP.out HQ.out HQL.out (by rw [← HK.out];exact h5) HLEN4.out.1 HLEN4.out.2 kw14 HLOW4.out (HPS.out) cap1 nF4x nF4y kB x0 x1 y0 y1
  rw [← HK.out] at hback
  have HBK:=Lib.hid hback
  have nwB:=kB.size
  have heqx:∀ W,(binOp .eql 26 (.agg #[.int .u8 x.tag,.int .u32 x.to]) (.agg #[.int .u8 x.tag,.int .u32 x.to])).run Tryz.prog W=.ok (.bool true) W:=fun W=>by rw [run_eql_edge];simp
  have heqy:∀ W,(binOp .eql 26 (.agg #[.int .u8 y.tag,.int .u32 y.to]) (.agg #[.int .u8 y.tag,.int .u32 y.to])).run Tryz.prog W=.ok (.bool true) W:=fun W=>by rw [run_eql_edge];simp
  have hgx:gx < wB.heap.size:=lt_of_cell c0
  clear hback
  go_wp2_with fail
  go_cut [27,28] (fun s27 s28 wx=>∃ g4,s27=.slice (some ⟨g4,0,none⟩) 2 2 ∧ s28=.int .u8 0 ∧ (wx.cell? ⟨g4,0,none⟩=some (.int .u8 x.tag) ∧ wx.cell? ⟨g4,1,none⟩=some (.int .u32 x.to) ∧ wx.cell? ⟨g4,2,none⟩=some (.int .u8 y.tag) ∧ wx.cell? ⟨g4,3,none⟩=some (.int .u32 y.to)) ∧ (wx.cell? ⟨w7.heap.size,0,none⟩=some (.int .u8 x.tag) ∧ wx.cell? ⟨w7.heap.size,1,none⟩=some (.int .u32 x.to) ∧ wx.cell? ⟨w9.heap.size,0,none⟩=some (.int .u8 y.tag) ∧ wx.cell? ⟨w9.heap.size,1,none⟩=some (.int .u32 y.to)) ∧ OrdRep Fo wx ob ps ∧ Keeps w wx)
  case first=>
   go_region_held3 (fun w'=>w'.cell? ⟨gx,0,none⟩=some (.int .u8 z.tag) ∧ w'.cell? ⟨gx,1,none⟩=some (.int .u32 z.to) ∧ w'.cell? ⟨gx,2,none⟩=some (.int .u8 l1.tag) ∧ w'.cell? ⟨gx,3,none⟩=some (.int .u32 l1.to)) (go_keep) ((first
    | (go_at_call 46;refine (HBK.out _ _ (by (exact kp)) (by simp) (by simp [go_sem]) (by simp [go_sem]) (by simp [go_sem]) (by simp [go_sem]) (by simp [go_sem]) (by simp [go_sem])).mono ?_;rintro e w' ⟨g4,rfl,hd,hxy,⟨c0',c1',c2',c3'⟩,hO5,kw5,hsz5⟩)))
   go_wp2_with fail
   go_meet
   exact ⟨g4,rfl,rfl,hd,hxy,hO5,kw5⟩
  case rest=>
   clear x0 x1 y0 y1 c0 c1 c2 c3
   obtain ⟨g4,rfl,rfl,⟨d0,d1,d2,d3⟩,⟨x0,x1,y0,y1⟩,hO5,kw5⟩:=hcut
   have hpm:=fun (W:World) (hW:Keeps wc W)=>ordPerm_calls (hO5.keeps hW)
   rw [← HK.out] at hpm
   have HPM:=Lib.hid hpm
   clear hpm hO5
   go_wp2_with fail
   go_region_held3 (fun w'=>w'.cell? ⟨g4,0,none⟩=some (.int .u8 x.tag) ∧ w'.cell? ⟨g4,1,none⟩=some (.int .u32 x.to) ∧ w'.cell? ⟨g4,2,none⟩=some (.int .u8 y.tag) ∧ w'.cell? ⟨g4,3,none⟩=some (.int .u32 y.to) ∧ w'.cell? ⟨w7.heap.size,0,none⟩=some (.int .u8 x.tag) ∧ w'.cell? ⟨w7.heap.size,1,none⟩=some (.int .u32 x.to) ∧ w'.cell? ⟨w9.heap.size,0,none⟩=some (.int .u8 y.tag) ∧ w'.cell? ⟨w9.heap.size,1,none⟩=some (.int .u32 y.to)) (go_keep) ((first
    | (go_at_call 47;refine (HPM.out _ (by (exact kp))).mono ?_;rintro e2 wp ⟨ap2,cp2,rfl,hrp2,hkp⟩;have hip:=hrp2.ints;have d0:=hkp.cell d0;have d1:=hkp.cell d1;have d2:=hkp.cell d2;have d3:=hkp.cell d3;have x0:=hkp.cell x0;have x1:=hkp.cell x1;have y0:=hkp.cell y0;have y1:=hkp.cell y1)
    | (go_at_call 35;refine (HSP.out _ _ _ (by (exact kp)) (IntsAt.keeps hip (by (exact kp)))).mono ?_;rintro e2 ws ⟨rfl,hks⟩;have d0:=hks.cell d0;have d1:=hks.cell d1;have d2:=hks.cell d2;have d3:=hks.cell d3;have x0:=hks.cell x0;have x1:=hks.cell x1;have y0:=hks.cell y0;have y1:=hks.cell y1)))
   all_goals (try go_wp2_with fail)
   all_goals go_ret
   all_goals exact ⟨rfl,by (exact kp)⟩

end Go.Proofs.YtiifimnpmbfihaaGreat
