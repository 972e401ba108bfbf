/-
  Proved: the statement SaveRoom, for every input.
-/
import Derived.Test.YtfpjogpjocedaaaGreatPLeadsAxA
import Derived.Test.YtfpjogpjocedaaaGreatPSpoiltP
import Derived.Test.YtfpjogpjocedaaaGreatRows
namespace Go.Proofs.YtfpjogpjocedaaaGreat
set_option linter.unusedSimpArgs false
set_option linter.unusedVariables false
set_option maxHeartbeats 600000
open Go.ChangeShapes Go.WideShapes Go.ChangeAt Go.RowKit

set_option maxRecDepth 100000 in
set_option maxHeartbeats 4000000 in
theorem saveRoom_in (a1:Option Addr) (cap1:Nat) (ps:List Int) (room f a:Int) (w:World) (hps:IntsAt w a1 ps) (h6:ps.length ≤ 6) (hp:permB ps=true) (hf:1 ≤ f ∧ f ≤ 5) (ha:0 ≤ a) (ha2:a ≤ 18446744073709551615) (hr:0 ≤ room ∧ room ≤ 200) :
  Calls Tryz.prog 6 #[.slice a1 ps.length cap1,.int .i64 room,.int .u8 f,.int .u64 a] w fun e w'=>e=.returned (.bool true) ∧ Keeps w w':=by
 have hrp:=fun (W:World) (hW:Keeps w W)=>refRight_calls a1 cap1 ps W (hps.keeps hW) (by omega)
 have hst:=fun (W:World) (hW:Keeps w W)=>stage_calls 300 a1 cap1 ps W (hps.keeps hW) hp (by omega) (by omega)
 have hsu:=fun (W:World) (hW:Keeps w W)=>stage_calls room a1 cap1 ps W (hps.keeps hW) hp (by omega) (by omega)
 have hba:=fun (W:World)=>bits_calls ps.length (by omega) a ha ha2 W
 rw [hp] at hrp
 have hp6:2 ^ ps.length ≤ 2 ^ 6:=Nat.pow_le_pow_right (by decide) h6
 have e6:(2:Nat) ^ 6=64:=rfl
 rw [e6] at hp6
 have hp1:1 ≤ 2 ^ ps.length:=Nat.pow_pos (by decide)
 have hof:=fun (B:Nat) (bs:List Bool) (hbl:bs.length=2 ^ ps.length) (W:World) (hB:BoolsAt W B bs)=>by
  have:=setOf_calls (ps.length:Int) B (2 ^ ps.length) bs W hB (by omega) (by omega)
  rw [hbl] at this
  exact this
 have hbo:=fun (F Fo:Nat → Prop) (W:World) (sb ob:Nat) (M:St) (G:Nat) (bs:List Bool) (hbl:bs.length=2 ^ ps.length) (hS:Sit F Fo W sb ob M ps) (hU:RowU W G (wordsL bs)) (hG:¬ F G) (hroom:M.len + 63 ≤ M.room)=>by
  have hwl:(wordsL bs).length ≤ 1048576:=by rw [wordsL_len,hbl];omega
  exact buildOf_calls hS.rep hS.ord hS.dis hS.n f (by simp [isFormB];omega) (some ⟨G,0,none⟩) (wordsL bs).length (wordsL bs).length rfl hwl (hU.words (fun x hx=>wordsL_range hx)) (fun b off e hh=>by cases e;exact hG hh) (setOkB_words (by omega) hbl) (by omega)
 have htm:=fun (B cap:Nat) (bs:List Bool) (hbl:bs.length=2 ^ ps.length) (W:World) (hW:Keeps w W) (hB:BoolsAt W B bs)=>term18_calls a1 cap1 ps (wordsL bs) (some ⟨B,0,none⟩) cap f hf W (hps.keeps hW) hp h6 (boolsIn_at hB hbl)
 have hnd:=fun (bs:List Bool) (W:World)=>nodes17_calls (termK f ps.length (bldT (hasB (wordsL bs)) ps 0) 0) W (termK_size hf h6 _ _)
 have his:=fun (B cap:Nat) (bs:List Bool) (hbl:bs.length=2 ^ ps.length) (F:Nat → Prop) (W:World) (hW:Keeps w W) (hB:BoolsAt W B bs) (ub:Nat) (M:St) (y:Edge) (hS:StoreRep F W ub M) (hn:M.n=(ps.length:Int)) (hlen:M.len + 128 ≤ 1048576) (hy:Stands M f ps (hasB (wordsL bs)) y)=>is18_calls hS a1 cap1 (hps.keeps hW) hp h6 hn f hf hy.ok hy.lead hy.right (stands_text6 hS hf hp hn h6 hlen hy) (some ⟨B,0,none⟩) cap (boolsIn_at hB hbl)
 obtain ⟨K,hK⟩:∃ K,K=ps.length:=⟨_,rfl⟩
 obtain ⟨p,hpp⟩:∃ p,p=2 ^ K:=⟨_,rfl⟩
 rw [← hK] at hrp hst hsu hba h6 hp6 hp1 ⊢
 simp only [← hK] at hof hbo htm hnd his
 rw [← hpp] at hba hp6 hp1
 simp only [← hpp] at hof hbo htm his
 have HRP:=Lib.hid hrp
 have HST:=Lib.hid hst
 have HSU:=Lib.hid hsu
 have HBA:=Lib.hid hba
 have HOF:=Lib.hid hof
 have HBO:=Lib.hid hbo
 have HTM:=Lib.hid htm
 have HND:=Lib.hid hnd
 have HIS:=Lib.hid his
 have HK:=Lib.hid hK
 have HPP:=Lib.hid hpp
 have HP:=Lib.hid hp
 have HPS:=Lib.hid hps
 have HF:=Lib.hid hf
 have f1:¬ f < 1:=by omega
 have f5:¬ 5 < f:=by omega
 have r0:¬ room < 0:=by omega
 have r2:¬ 200 < room:=by omega
 clear hrp hst hsu hba hof hbo htm hnd his hK hpp hp hps e6
 go_enter Tryz.func6,Tryz.ntmps6
 go_wp2_with fail
 refine (l28_alive _).mono ?_
 rintro e w1 ⟨rfl,hk1⟩
 go_wp2_with fail
 refine (HRP.out _ hk1).mono ?_
 rintro e w11 ⟨rfl,rfl⟩
 go_wp2_with fail
 refine (HBA.out _).mono ?_
 rintro e w2 ⟨bs,hbl,rfl,hB,hk2⟩
 have HB:=Lib.hid hB
 have HBL:=Lib.hid hbl
 clear hB hbl
 go_wp2_with fail
 refine (HST.out _ (hk1.trans hk2)).mono ?_
 rintro e w3 ⟨sb,ob,F,Fo,rfl,hk3,hS,hO,hdis,hFl,hFo⟩
 have kw3:=(hk1.trans hk2).trans hk3
 have hlo0:∀ k,F k ∨ Fo k → w2.heap.size ≤ k:=fun k hk=>by
  rcases hk with hk | hk
  ·exact hFl k hk
  ·exact hFo k hk
 have hsit0:Sit F Fo w3 sb ob (St.new (K:Int) 300) ps:=⟨hS,hO,hdis,by show (K:Int)=_;rw [HK.out],by show (300:Int) < 1048576;decide⟩
 have HSIT0:=Lib.hid hsit0
 have HLO0:=Lib.hid hlo0
 clear hS hO hdis hFl hFo hsit0 hlo0
 go_wp2_with fail
 refine (HSU.out _ kw3).mono ?_
 rintro e w4 ⟨ub,qb,F2,Fq,rfl,hk4,hS2,hO2,hdis2,hFl2,hFq2⟩
 have kw4:=kw3.trans hk4
 have HSIT2:Hid (Sit F2 Fq w4 ub qb (St.new (K:Int) room) ps):=Lib.hid ⟨hS2,hO2,hdis2,by show (K:Int)=_;rw [HK.out],by show room < 1048576;omega⟩
 have hlo2:∀ k,F2 k ∨ Fq k → w3.heap.size ≤ k:=fun k hk=>by
  rcases hk with hk | hk
  ·exact hFl2 k hk
  ·exact hFq2 k hk
 have HLO2:=Lib.hid hlo2
 clear hS2 hO2 hdis2 hFl2 hFq2 hlo2
 go_wp2_with fail
 refine (HOF.out _ bs HBL.out _ (HB.out.keep (Keeps.upd (hk3.trans hk4) (fun _=>False)) (fun h=>h))).mono ?_
 rintro e w6 ⟨G1,hG1,rfl,hU1,hk6⟩
 have hk36:=hk4.trans hk6
 have s34:=hk4.size
 have s23:=hk3.size
 have s46:=hk6.size
 have hsit6:=HSIT0.out.keeps hk36
 have nG1:¬ F G1:=fun hh=>by have:=HSIT0.out.rep.lt _ hh;omega
 have HBO1:=Lib.hid (HBO.out F Fo w6 sb ob _ G1 bs HBL.out hsit6 hU1 nG1 (by show (0:Int) + 63 ≤ 300;decide))
 have HSIT6:=Lib.hid hsit6
 have kw6:=kw3.trans hk36
 have hB6:=HB.out.keep (Keeps.upd ((hk3.trans hk4).trans hk6) (fun _=>False)) (fun h=>h)
 have HB6:=Lib.hid hB6
 clear hU1 nG1 hsit6 hB6
 go_wp2_with fail
 refine HBO1.out.mono ?_
 rintro e w7 ⟨x,M1,rfl,hxok,hbt1,⟨hgr1,hsol1⟩,hst1⟩
 obtain ⟨F1,hsit1,sub1,upd1⟩:=sit_built HSIT6.out hgr1 hst1
 have s12:=hk2.size
 have s01:=hk1.size
 have kw7:=kw6.new upd1 (fun k hk=>by have:=HLO0.out k hk;omega)
 have hltF:∀ k,F k ∨ Fo k → k < w3.heap.size:=fun k hk=>by
  rcases hk with hk | hk
  ·exact HSIT0.out.rep.lt k hk
  ·exact HSIT0.out.ord.lt k hk
 have hsit7:Sit F2 Fq w7 ub qb (St.new (K:Int) room) ps:=⟨(HSIT2.out.rep.keeps hk6).keep upd1 (fun k h1 h2=>by have q1:=HLO2.out k (.inl h1);have q2:=hltF k h2;omega),(HSIT2.out.ord.keeps hk6).keep upd1 (fun k h1 h2=>by have q1:=HLO2.out k (.inr h1);have q2:=hltF k h2;omega),HSIT2.out.dis,HSIT2.out.n,HSIT2.out.room⟩
 have hb7:BoolsAt w7 w1.heap.size bs:=HB6.out.keep upd1 (fun hh=>by have q1:=HLO0.out _ hh;have q2:=HB.out.lt;omega)
 have hsx:=built_stands hsit1.rep.wf HF.out HP.out hsit1.n hxok hbt1
 have hl1:M1.len ≤ 63:=by
  have:=hgr1.len
  have h64:2 ^ ps.length ≤ 64:=by rw [← HK.out,← HPP.out];exact hp6
  have h0:(St.new (K:Int) 300).len=0:=rfl
  omega
 have hso1:M1.solid:=hsol1 (new_solid _ _)
 have HSIT1:=Lib.hid hsit1
 have HSIT7:=Lib.hid hsit7
 have HB7:=Lib.hid hb7
 have HSX:=Lib.hid hsx
 have HSO1:=Lib.hid hso1
 have HKW7:=Lib.hid kw7
 have HLR:=Lib.hid hl1
 clear hbt1 hgr1 hsol1 hst1 hsit1 hsit7 hb7 sub1 upd1 hsx hso1 hl1 kw7 hltF
 go_wp2_with fail
 obtain ⟨W7,hW7⟩:∃ W,W=w7.alloc (.cells #[.int .u8 x.tag,.int .u32 x.to] 37):=⟨_,rfl⟩
 have hk7:Keeps w7 W7:=by rw [hW7];exact (Keeps.refl w7).alloc _
 rw [← hW7]
 clear hW7
 have hkr:kRight M1 f x 0=true:=kRight_of HF.out HSX.out.lead HSX.out.right
 have hc0:saveCode M1 ps.length f x=0:=by
  unfold saveCode
  rw [if_pos HSIT1.out.n,if_pos (by have:=HF.out;unfold isFormB;simp;omega),if_pos hkr]
 have hsv:=save_calls (HSIT1.out.rep.keeps hk7) (HSIT1.out.ord.keeps hk7) f (by have:=HF.out;omega) x hxok
 have HSV:=Lib.hid hsv
 clear hsv
 refine HSV.out.mono ?_
 rintro e w8 hh
 rcases hh with ⟨-,v,rfl,hrow,hk8⟩ | ⟨hq,_⟩
 case inr=>exact absurd hc0 hq
 have hfa1:FitA M1:=fun id r hl=>HSIT1.out.rep.fit hl
 have hpr:=perm_range2 HP.out
 have hnum:=numM_solid HSIT1.out.rep.wf hfa1 HSO1.out x.to (k:=63) (by have:=HLR.out;omega)
 have hBl:=saveB_short HSIT1.out.rep.wf hfa1 hpr.2 (by rw [← HK.out];exact h6) (f:=f) (by have:=HF.out;omega) hxok hnum (by decide)
 have hBs:=saveB_bs M1 ps f x
 have hBp:0 < (saveB M1 ps f x).length:=by
  have:=putB_pos M1.n.toNat
  unfold saveB
  simp only [List.length_append]
  omega
 obtain ⟨M9,ids9,hg9⟩:=save_good HSIT1.out.rep.wf hfa1 HSIT1.out.rep.few HP.out HSIT1.out.n HF.out hxok hkr
 have hsl:=fun (T:Txt) (M0:St) (ids:List Int) (hg:GoodF (saveB M1 ps f x) T M0 ids)=>saved_loads HSIT1.out.rep.wf hfa1 HSIT1.out.rep.few HP.out HSIT1.out.n HF.out HSX.out (by omega) hg
 have hnds:=stands_nodes HSIT1.out.rep HF.out HP.out HSIT1.out.n (by rw [← HK.out];exact h6) (by have:=HLR.out;omega) HSX.out
 obtain ⟨B,hB⟩:∃ B,B=saveB M1 ps f x:=⟨_,rfl⟩
 rw [← hB] at hrow hBl hBs hBp hg9
 simp only [← hB] at hsl
 obtain ⟨C,hC⟩:∃ C,C=(numM M1 x.to []).length:=⟨_,rfl⟩
 simp only [← hC] at hsl
 rw [← hC] at hnds hnum
 obtain ⟨g4,cap4,rfl,hb4,hc4,hg4⟩:=hrow.shape hBp
 have hk78:=hk7.trans hk8
 obtain ⟨a9,cap9,hsl9,hat9⟩:=hrow.slice
 cases hsl9
 have hld:=load_calls (HSIT7.out.rep.keeps hk78) (HSIT7.out.ord.keeps hk78) (some ⟨g4,0,none⟩) cap4 B hat9 hBs (by omega) hc4
 obtain ⟨L,hL⟩:∃ L,L=B.length:=⟨_,rfl⟩
 rw [← hL] at hld ⊢
 have HLD:=Lib.hid hld
 have HG9:=Lib.hid hg9
 have HSL:=Lib.hid hsl
 have HB8:=Lib.hid (HB7.out.keep (Keeps.upd (hk78) (fun _=>False)) (fun h=>h))
 have HKW8:=Lib.hid (HKW7.out.trans hk78)
 have HN:=Lib.hid HSIT7.out.n
 have hn2:(fun (S:ByteArray)=>∀ W:World,Calls Tryz.prog 27 #[.string S] W fun e w'=>∃ a cap,e=.returned (.slice a C cap) ∧ Keeps W w') (termK f K (bldT (hasB (wordsL bs)) ps 0) 0):=fun W=>by
  have:=HND.out bs W
  rw [← HK.out] at hnds
  rw [hnds] at this
  exact this
 have ht2:=fun (cap:Nat)=>HTM.out w1.heap.size cap bs HBL.out
 obtain ⟨S,hS⟩:∃ S,S=termK f K (bldT (hasB (wordsL bs)) ps 0) 0:=⟨_,rfl⟩
 rw [← hS] at hn2
 simp only [← hS] at ht2
 have HN2:=Lib.hid hn2
 have HT2:=Lib.hid ht2
 have hlo7:∀ k,F2 k → w3.heap.size ≤ k:=fun k hk=>HLO2.out k (.inl hk)
 have HLO7:=Lib.hid hlo7
 have hBlt:=HB.out.lt
 clear hfa1 hpr hB hrow hBs hL hk7 hk8 hc0 hkr hg9 hsl hnds hC hat9 hld hn2 ht2 hS hlo7 HND HTM HSV HBO1 HBO HOF HBA HST HSU hBl
 go_wp2_with fail
 refine HLD.out.mono ?_
 rintro e w12 hld
 rcases hld with ⟨hne,_⟩ | ⟨_,hno,_⟩ | ⟨_,T,M0,ids,hg,hh⟩
 ·exact absurd HN.out hne
 ·exact absurd HG9.out (hno _ _ _)
 obtain ⟨t1,t2,t3⟩:=HSL.out T M0 ids hg
 rcases hh with ⟨hpm,_⟩ | ⟨hpm,er,M2,ids2,F3,hput,hres,hu,hS3,hF3⟩
 ·exact absurd t1 hpm
 have hq:=t3 (St.new (K:Int) room) HSIT7.out.rep.wf (by rw [HK.out];rfl) er M2 ids2 hput hS3.few
 have hkw12:Keeps w w12:=HKW8.out.new hu (fun j hj=>by have:=HLO7.out j hj;omega)
 have hb12:BoolsAt w12 w1.heap.size bs:=HB8.out.keep hu (fun hh=>by have:=HLO7.out _ hh;omega)
 have HKW12:=Lib.hid hkw12
 have HB12:=Lib.hid hb12
 rcases hq with ⟨rfl,hy,q1,q2,q3,q4,q5,q6⟩ | ⟨rfl,q1⟩
 ·rcases hres with ⟨_,y,hyy,rfl⟩ | ⟨hq,_⟩
  case inr=>exact absurd rfl hq
  rw [← hyy] at hy
  obtain ⟨-,q7⟩:=q3 (new_solid _ _)
  have e0:(St.new (K:Int) room).len=0:=rfl
  have e1:(St.new (K:Int) room).room=room:=rfl
  have hlen:M2.len=(C:Int):=by rw [e0] at q2;omega
  have hCr:¬ room < (C:Int):=by
   have:=q5.full
   rw [q6,e1] at this
   omega
  have hlc:∀ W,Keeps w12 W → Calls Tryz.prog 29 #[.pointer (some ⟨ub,0,none⟩)] W fun e w'=>e=.returned (.int .i64 (C:Int)) ∧ W=w':=fun W hW=>by
   have:=store_len (hS3.keeps hW)
   rw [hlen] at this
   exact this
  have HLC:=Lib.hid hlc
  have hn3:M2.n=(ps.length:Int):=by rw [q4.n];exact HN.out
  have hi3:=fun (cap:Nat) (W:World) (hW:Keeps w12 W)=>HIS.out w1.heap.size cap bs HBL.out F3 W (hkw12.trans hW) (HB12.out.keep (Keeps.upd (hW) (fun _=>False)) (fun h=>h)) ub M2 y (hS3.keeps hW) (hn3.trans (by rw [HK.out])) (by have:=HLR.out;omega) hy
  have HI3:=Lib.hid hi3
  rw [t2]
  clear hy q1 q2 q3 q4 q5 q6 q7 hlen hyy hput hu hS3 hF3 hg t1 t2 t3 hpm hlc hn3 hi3 hkw12 hb12 HSIT0 HSIT1 HSIT2 HSIT6 HSIT7 HLD HSL HIS HG9
  go_wp2_with (first
   | (go_at_call 28;refine (HT2.out _ _ (HKW12.out.trans (by (exact kp))) (HB12.out.keep (Keeps.upd (by (exact kp)) (fun _=>False)) (fun h=>h))).mono ?_;rintro e' w13 ⟨rfl,hk13⟩;have c0:w13.cell? ⟨w12.heap.size,0,none⟩=some (.int .u8 y.tag):=hk13.cell (by simp);have c1:w13.cell? ⟨w12.heap.size,1,none⟩=some (.int .u32 y.to):=hk13.cell (by simp))
   | (go_at_call 27;refine (HN2.out _).mono ?_;rintro e' w14 ⟨na,ncap,rfl,hk14⟩;replace c0:=hk14.cell c0;replace c1:=hk14.cell c1)
   | (go_at_call 26;refine (HI3.out _ _ (by (exact kp))).mono ?_;rintro e' w15 ⟨rfl,hk15⟩)
   | (go_at_call 29;refine (HLC.out _ (by (exact kp))).mono ?_;rintro e' w16 ⟨rfl,rfl⟩)
   | fail)
  go_ret
  exact ⟨rfl,by have hkw:=HKW12.out;(exact kp)⟩
 ·rcases hres with ⟨hq,_⟩ | ⟨_,rfl⟩
  ·exact absurd hq (by decide)
  have e0:(St.new (K:Int) room).len=0:=rfl
  have e1:(St.new (K:Int) room).room=room:=rfl
  have hCr:room < (C:Int):=by rw [e0,e1] at q1;omega
  clear q1 hput hu hS3 hF3 hg t1 t2 t3 hpm hkw12 hb12 HSIT0 HSIT1 HSIT2 HSIT6 HSIT7 HLD HSL HIS HG9
  go_wp2_with (first
   | (go_at_call 28;refine (HT2.out _ _ (HKW12.out.trans (by (exact kp))) (HB12.out.keep (Keeps.upd (by (exact kp)) (fun _=>False)) (fun h=>h))).mono ?_;rintro e' w13 ⟨rfl,hk13⟩;have c0:w13.cell? ⟨w12.heap.size,0,none⟩=some (.int .u8 0):=hk13.cell (by simp);have c1:w13.cell? ⟨w12.heap.size,1,none⟩=some (.int .u32 0):=hk13.cell (by simp))
   | (go_at_call 27;refine (HN2.out _).mono ?_;rintro e' w14 ⟨na,ncap,rfl,hk14⟩;replace c0:=hk14.cell c0;replace c1:=hk14.cell c1)
   | fail)
  go_ret
  exact ⟨rfl,by have hkw:=HKW12.out;(exact kp)⟩

set_option maxRecDepth 100000 in
theorem saveRoom_out (a1:Option Addr) (cap1:Nat) (ps:List Int) (room f a:Int) (w:World) (hps:IntsAt w a1 ps) (h:6 < ps.length ∨ permB ps=false ∨ room < 0 ∨ 200 < room ∨ f < 1 ∨ 5 < f) :
  Calls Tryz.prog 6 #[.slice a1 ps.length cap1,.int .i64 room,.int .u8 f,.int .u64 a] w fun e w'=>e=.returned (.bool true) ∧ Keeps w w':=by
 by_cases h5:6 < ps.length
 ·have g1:(6:Int) < (ps.length:Int):=by omega
  clear h
  go_enter Tryz.func6,Tryz.ntmps6
  go_wp2_with fail
  refine (l28_alive _).mono ?_
  rintro e w1 ⟨rfl,hk1⟩
  go_wp2_with fail
  all_goals (go_ret;exact ⟨rfl,by (exact kp)⟩)
 ·have HRP:=Lib.hid (fun (W:World) (hW:Keeps w W)=>refRight_calls a1 cap1 ps W (hps.keeps hW) (by omega))
  have g1:¬ (6:Int) < (ps.length:Int):=by omega
  cases hp:permB ps with
  | false=>
   rw [hp] at HRP
   clear h hp
   go_enter Tryz.func6,Tryz.ntmps6
   go_wp2_with fail
   refine (l28_alive _).mono ?_
   rintro e w1 ⟨rfl,hk1⟩
   go_wp2_with (first | (go_at_call 14;refine (HRP.out _ hk1).mono ?_;rintro e w2 ⟨rfl,rfl⟩) | fail)
   all_goals (go_ret;exact ⟨rfl,by (exact kp)⟩)
  | true=>
   rw [hp] at HRP h
   go_enter Tryz.func6,Tryz.ntmps6
   go_wp2_with fail
   refine (l28_alive _).mono ?_
   rintro e w1 ⟨rfl,hk1⟩
   by_cases h1:room < 0
   ·clear h
    go_wp2_with (first | (go_at_call 14;refine (HRP.out _ hk1).mono ?_;rintro e w2 ⟨rfl,rfl⟩) | fail)
    all_goals (go_ret;exact ⟨rfl,by (exact kp)⟩)
   ·by_cases h2:200 < room
    ·clear h
     go_wp2_with (first | (go_at_call 14;refine (HRP.out _ hk1).mono ?_;rintro e w2 ⟨rfl,rfl⟩) | fail)
     all_goals (go_ret;exact ⟨rfl,by (exact kp)⟩)
    ·by_cases h3:f < 1
     ·clear h
      go_wp2_with (first | (go_at_call 14;refine (HRP.out _ hk1).mono ?_;rintro e w2 ⟨rfl,rfl⟩) | fail)
      all_goals (go_ret;exact ⟨rfl,by (exact kp)⟩)
     ·have h4:5 < f:=by
       rcases h with h | h | h | h | h | h
       ·exact absurd h h5
       ·cases h
       ·exact absurd h h1
       ·exact absurd h h2
       ·exact absurd h h3
       ·exact h
      clear h
      go_wp2_with (first | (go_at_call 14;refine (HRP.out _ hk1).mono ?_;rintro e w2 ⟨rfl,rfl⟩) | fail)
      all_goals (go_ret;exact ⟨rfl,by (exact kp)⟩)

theorem saveRoom_walk (a1:Option Addr) (l1 cap1:Nat) (ps:List Int) (room f a:Int) (w:World) (hps:IsInts w a1 l1 ps) (_:(Lit.int .i64 room).wf=true) (_:(Lit.int .u8 f).wf=true) (ha:(Lit.int .u64 a).wf=true) :
  Calls Tryz.prog 6 #[.slice a1 l1 cap1,.int .i64 room,.int .u8 f,.int .u64 a] w fun e w'=>e=.returned (.bool true) ∧ Keeps w w':=by
 have hmin6:IntKind.u64.min=0:=rfl
 have hmax6:IntKind.u64.max=18446744073709551615:=rfl
 have hau:0 ≤ a ∧ a ≤ 18446744073709551615:=by simp [Lit.wf,hmin6,hmax6] at ha;exact ha
 obtain ⟨rfl,hI,-⟩:=hps
 by_cases h:6 < ps.length ∨ permB ps=false ∨ room < 0 ∨ 200 < room ∨ f < 1 ∨ 5 < f
 ·exact saveRoom_out a1 cap1 ps room f a w hI h
 ·have hp:permB ps=true:=by
   cases hp:permB ps with
   | true=>rfl
   | false=>exact absurd (.inr (.inl hp)) h
  exact saveRoom_in a1 cap1 ps room f a w hI (by omega) hp (by omega) hau.1 hau.2 (by omega)

set_option maxRecDepth 100000 in
theorem saveRoom_lifted (os:Os) (started:os.Started) (H:Type) (enc:TypeId × Value → H) :
  ReturnsInHanded {} Tryz.checked os 6 .any (Rows.saveRoomSpec.pre6 enc Tryz.prog Tryz.f6 Rows.saveRoomRow.domain false) (Rows.saveRoomSpec.post enc Tryz.prog Tryz.f6 false true false false):=by
 refine returnsInHanded_of_change (C:=Tryz.checked) own started (by kernel_rfl) Tryz.func6
  (ChangeSpec.witness6 (enc:=enc) (C:=Tryz.checked) false ⟨#[],#[.slice none 0 0,.int .i64 0,.int .u8 0,.int .u64 0],[]⟩ 12 (by kernel_rfl) (by kernel_rfl) (by kernel_rfl) (by kernel_rfl)) ?_
 intro W base args ds gs before hval0 hW hcnd _
 have hval:∀ (j:Nat) t v,Tryz.f6.params[j]?=some t → args[j]?=some v → Value.okWide Tryz.prog W .any base t v:=hval0
 have hW':=hW
 obtain ⟨p,q,hA0,hV,rfl,hfz,hnd⟩:=hW
 have hA:DataW.TrodAll enc Tryz.prog W 0 (fun _=>true) true Tryz.f6.params.toList args.toList ds p:=hA0
 rw [Tryz.params6] at hA hval
 have hAk:=hA
 obtain ⟨v0,vs0,d0,ds0,p0,q0,hargs,rfl,rfl,h0,r0⟩:=trodAll_cons hA
 obtain ⟨v1,vs1,d1,ds1,p1,q1,rfl,rfl,rfl,h1,r1⟩:=trodAll_cons r0
 obtain ⟨v2,vs2,d2,ds2,p2,q2,rfl,rfl,rfl,h2,r2⟩:=trodAll_cons r1
 obtain ⟨v3,vs3,d3,ds3,p3,q3,rfl,rfl,rfl,h3,r3⟩:=trodAll_cons r2
 obtain ⟨rfl,rfl,rfl⟩:=trodAll_nil r3
 obtain rfl:args=#[v0,v1,v2,v3]:=by cases args;simp_all
 obtain ⟨rfl,rfl⟩:=trodVars_none hV
 obtain ⟨a0,len0,cap0,rfl⟩:=okWide_slice Tryz.underlying23 (hval 0 23 v0 rfl rfl)
 obtain ⟨rs0,w0⟩:=open_intRow h0
 obtain ⟨a1,rfl,rfl,rfl,w1⟩:=open_int Tryz.underlying3 (hval 1 3 v1 rfl rfl) h1
 obtain ⟨a2,rfl,rfl,rfl,w2⟩:=open_int Tryz.underlying5 (hval 2 5 v2 rfl rfl) h2
 obtain ⟨a3,rfl,rfl,rfl,w3⟩:=open_int Tryz.underlying60 (hval 3 60 v3 rfl rfl) h3
 clear hA0 hval0
 refine (saveRoom_walk a0 len0 cap0 rs0 a1 a2 a3 W w0 w1 w2 w3).mono fun e W' ⟨he,bel⟩=>?_
 subst he
 exact ⟨_,rfl,_,_,_,[],_,[],hW',trodAll_mk1 (shut_bool Tryz.underlying4 _),trodAll_below laidOut bel _ _ _ _ (by kernel_rfl) hAk,rfl,Below.frame bel _,fun h=>by cases h⟩

set_option maxHeartbeats 8000000 in
theorem saveRoom_over:Rows.saveRoomRow.holds Tryz.pinned (OpenSpec.ofChange Rows.saveRoomSpec):=
 OpenClaim.holds_of_wide 6 Tryz.f6 rfl rfl rfl rfl rfl rfl rfl ⟨rfl,rfl,rfl,rfl,rfl⟩ rfl rfl rfl rfl rfl (by as_aux_lemma=>kernel_rfl) Tryz.func6 (by unfold joinedFacts;(repeat' with_reducible refine Bool.and_eq_true_iff.2 ⟨?_,?_⟩);all_goals as_aux_lemma=>kernel_rfl)
  (of_decide_eq_true (by as_aux_lemma=>kernel_rfl)) (by unfold Func.isWrapper;first | (rw [if_pos (by decide +kernel)];kernel_rfl) | (rw [if_neg (by decide +kernel)];exact ⟨rfl,rfl⟩))
  (fun os started H enc _=>saveRoom_lifted os started H enc)

theorem saveRoom_proved:Rows.SaveRoomSaid:=saveRoom_over

end Go.Proofs.YtfpjogpjocedaaaGreat
