/-
  Proved: the statement SaveBack, for every input.
-/
import Derived.Test.YtfpjogpjocedaaaGreatPBackQxB
import Derived.Test.YtfpjogpjocedaaaGreatRows
namespace Go.Proofs.YtfpjogpjocedaaaGreat
set_option linter.unusedSimpArgs false
set_option linter.unusedVariables false
set_option maxHeartbeats 600000
open Go.ChangeShapes Go.WideShapes Go.ChangeAt Go.RowKit

set_option maxRecDepth 100000 in
set_option maxHeartbeats 4000000 in
theorem saveBack_in (a1:Option Addr) (cap1:Nat) (ps:List Int) (f a c:Int) (w:World) (hps:IntsAt w a1 ps) (h6:ps.length ≤ 6) (hp:permB ps=true) (hf:1 ≤ f ∧ f ≤ 5) (ha:0 ≤ a) (ha2:a ≤ 18446744073709551615) (hc:0 ≤ c) (hc2:c ≤ 18446744073709551615) :
  Calls Tryz.prog 4 #[.slice a1 ps.length cap1,.int .u8 f,.int .u64 a,.int .u64 c] w fun e w'=>e=.returned (.bool true) ∧ Keeps w w':=by
 have hrp:=fun (W:World) (hW:Keeps w W)=>refRight_calls a1 cap1 ps W (hps.keeps hW) (by omega)
 have hst:=fun (W:World) (hW:Keeps w W)=>stage_calls 300 a1 cap1 ps W (hps.keeps hW) hp (by omega) (by omega)
 have hsu:=fun (W:World) (hW:Keeps w W)=>stage_calls 900 a1 cap1 ps W (hps.keeps hW) hp (by omega) (by omega)
 have hba:=fun (W:World)=>bits_calls ps.length (by omega) a ha ha2 W
 have hbc:=fun (W:World)=>bits_calls ps.length (by omega) c hc hc2 W
 rw [hp] at hrp
 have hp6:2 ^ ps.length ≤ 2 ^ 6:=Nat.pow_le_pow_right (by decide) h6
 have e6:(2:Nat) ^ 6=64:=rfl
 rw [e6] at hp6
 have hp1:1 ≤ 2 ^ ps.length:=Nat.pow_pos (by decide)
 have hof:=fun (B:Nat) (bs:List Bool) (hbl:bs.length=2 ^ ps.length) (W:World) (hB:BoolsAt W B bs)=>by
  have:=setOf_calls (ps.length:Int) B (2 ^ ps.length) bs W hB (by omega) (by omega)
  rw [hbl] at this
  exact this
 have hbo:=fun (f:Int) (hf:1 ≤ f ∧ f ≤ 5) (F Fo:Nat → Prop) (W:World) (sb ob:Nat) (M:St) (G:Nat) (bs:List Bool) (hbl:bs.length=2 ^ ps.length) (hS:Sit F Fo W sb ob M ps) (hU:RowU W G (wordsL bs)) (hG:¬ F G) (hroom:M.len + 63 ≤ M.room)=>by
  have hwl:(wordsL bs).length ≤ 1048576:=by rw [wordsL_len,hbl];omega
  exact buildOf_calls hS.rep hS.ord hS.dis hS.n f (by simp [isFormB];omega) (some ⟨G,0,none⟩) (wordsL bs).length (wordsL bs).length rfl hwl (hU.words (fun x hx=>wordsL_range hx)) (fun b off e hh=>by cases e;exact hG hh) (setOkB_words (by omega) hbl) (by omega)
 have htm:=fun (B cap:Nat) (bs:List Bool) (hbl:bs.length=2 ^ ps.length) (W:World) (hW:Keeps w W) (hB:BoolsAt W B bs)=>term18_calls a1 cap1 ps (wordsL bs) (some ⟨B,0,none⟩) cap f hf W (hps.keeps hW) hp h6 (boolsIn_at hB hbl)
 have hnd:=fun (bs:List Bool) (W:World)=>nodes17_calls (termK f ps.length (bldT (hasB (wordsL bs)) ps 0) 0) W (termK_size hf h6 _ _)
 have his:=fun (B cap:Nat) (bs:List Bool) (hbl:bs.length=2 ^ ps.length) (F:Nat → Prop) (W:World) (hW:Keeps w W) (hB:BoolsAt W B bs) (ub:Nat) (M:St) (y:Edge) (hS:StoreRep F W ub M) (hn:M.n=(ps.length:Int)) (hlen:M.len + 128 ≤ 1048576) (hy:Stands M f ps (hasB (wordsL bs)) y)=>is18_calls hS a1 cap1 (hps.keeps hW) hp h6 hn f hf hy.ok hy.lead hy.right (stands_text6 hS hf hp hn h6 hlen hy) (some ⟨B,0,none⟩) cap (boolsIn_at hB hbl)
 obtain ⟨K,hK⟩:∃ K,K=ps.length:=⟨_,rfl⟩
 obtain ⟨p,hpp⟩:∃ p,p=2 ^ K:=⟨_,rfl⟩
 rw [← hK] at hrp hst hsu hba hbc h6 hp6 hp1 ⊢
 simp only [← hK] at hof hbo htm hnd his
 rw [← hpp] at hba hbc hp6 hp1
 simp only [← hpp] at hof hbo htm his
 have HRP:=Lib.hid hrp
 have HST:=Lib.hid hst
 have HSU:=Lib.hid hsu
 have HBA:=Lib.hid hba
 have HBC:=Lib.hid hbc
 have HOF:=Lib.hid hof
 have HBO:=Lib.hid hbo
 have HTM:=Lib.hid htm
 have HND:=Lib.hid hnd
 have HIS:=Lib.hid his
 have HK:=Lib.hid hK
 have HPP:=Lib.hid hpp
 have HP:=Lib.hid hp
 have HPS:=Lib.hid hps
 have HF:=Lib.hid hf
 have f1:¬ f < 1:=by omega
 have f5:¬ 5 < f:=by omega
 clear hrp hst hsu hba hbc hof hbo htm hnd his hK hpp hp hps e6
 go_enter Tryz.func4,Tryz.ntmps4
 go_wp2_with fail
 refine (l28_alive _).mono ?_
 rintro e w1 ⟨rfl,hk1⟩
 go_wp2_with fail
 refine (HRP.out _ hk1).mono ?_
 rintro e w11 ⟨rfl,rfl⟩
 go_wp2_with fail
 refine (HBA.out _).mono ?_
 rintro e w2 ⟨bs,hbl,rfl,hB,hk2⟩
 have HB:=Lib.hid hB
 have HBL:=Lib.hid hbl
 clear hB hbl
 go_wp2_with fail
 refine (HST.out _ (hk1.trans hk2)).mono ?_
 rintro e w3 ⟨sb,ob,F,Fo,rfl,hk3,hS,hO,hdis,hFl,hFo⟩
 have kw3:=(hk1.trans hk2).trans hk3
 have hlo0:∀ k,F k ∨ Fo k → w2.heap.size ≤ k:=fun k hk=>by
  rcases hk with hk | hk
  ·exact hFl k hk
  ·exact hFo k hk
 have hsit0:Sit F Fo w3 sb ob (St.new (K:Int) 300) ps:=⟨hS,hO,hdis,by show (K:Int)=_;rw [HK.out],by show (300:Int) < 1048576;decide⟩
 have HSIT0:=Lib.hid hsit0
 have HLO0:=Lib.hid hlo0
 clear hS hO hdis hFl hFo hsit0 hlo0
 go_wp2_with fail
 refine (HSU.out _ kw3).mono ?_
 rintro e w4 ⟨ub,qb,F2,Fq,rfl,hk4,hS2,hO2,hdis2,hFl2,hFq2⟩
 have kw4:=kw3.trans hk4
 have HSIT2:Hid (Sit F2 Fq w4 ub qb (St.new (K:Int) 900) ps):=Lib.hid ⟨hS2,hO2,hdis2,by show (K:Int)=_;rw [HK.out],by show (900:Int) < 1048576;decide⟩
 have hlo2:∀ k,F2 k ∨ Fq k → w3.heap.size ≤ k:=fun k hk=>by
  rcases hk with hk | hk
  ·exact hFl2 k hk
  ·exact hFq2 k hk
 have HLO2:=Lib.hid hlo2
 clear hS2 hO2 hdis2 hFl2 hFq2 hlo2
 go_wp2_with fail
 refine (HOF.out _ bs HBL.out _ (HB.out.keep (Keeps.upd (hk3.trans hk4) (fun _=>False)) (fun h=>h))).mono ?_
 rintro e w6 ⟨G1,hG1,rfl,hU1,hk6⟩
 have hk36:=hk4.trans hk6
 have s34:=hk4.size
 have s23:=hk3.size
 have s46:=hk6.size
 have hsit6:=HSIT0.out.keeps hk36
 have nG1:¬ F G1:=fun hh=>by have:=HSIT0.out.rep.lt _ hh;omega
 have HBO1:=Lib.hid (HBO.out f HF.out F Fo w6 sb ob _ G1 bs HBL.out hsit6 hU1 nG1 (by show (0:Int) + 63 ≤ 300;decide))
 have HSIT6:=Lib.hid hsit6
 have kw6:=kw3.trans hk36
 have hB6:=HB.out.keep (Keeps.upd ((hk3.trans hk4).trans hk6) (fun _=>False)) (fun h=>h)
 have HB6:=Lib.hid hB6
 clear hU1 nG1 hsit6 hB6
 go_wp2_with fail
 refine HBO1.out.mono ?_
 rintro e w7 ⟨x,M1,rfl,hxok,hbt1,⟨hgr1,hsol1⟩,hst1⟩
 obtain ⟨F1,hsit1,sub1,upd1⟩:=sit_built HSIT6.out hgr1 hst1
 have s12:=hk2.size
 have s67:=upd1.size
 have s01:=hk1.size
 have kw7:=kw6.new upd1 (fun k hk=>by have:=HLO0.out k hk;omega)
 have hltF:∀ k,F k ∨ Fo k → k < w3.heap.size:=fun k hk=>by
  rcases hk with hk | hk
  ·exact HSIT0.out.rep.lt k hk
  ·exact HSIT0.out.ord.lt k hk
 have hsit7:Sit F2 Fq w7 ub qb (St.new (K:Int) 900) ps:=⟨(HSIT2.out.rep.keeps hk6).keep upd1 (fun k h1 h2=>by have q1:=HLO2.out k (.inl h1);have q2:=hltF k h2;omega),(HSIT2.out.ord.keeps hk6).keep upd1 (fun k h1 h2=>by have q1:=HLO2.out k (.inr h1);have q2:=hltF k h2;omega),HSIT2.out.dis,HSIT2.out.n,HSIT2.out.room⟩
 have hb7:BoolsAt w7 w1.heap.size bs:=HB6.out.keep upd1 (fun hh=>by have q1:=HLO0.out _ hh;have q2:=HB.out.lt;omega)
 have hsx:=built_stands hsit1.rep.wf HF.out HP.out hsit1.n hxok hbt1
 have hl1:M1.len ≤ 63:=by
  have:=hgr1.len
  have h64:2 ^ ps.length ≤ 64:=by rw [← HK.out,← HPP.out];exact hp6
  have h0:(St.new (K:Int) 300).len=0:=rfl
  omega
 have hso1:M1.solid:=hsol1 (new_solid _ _)
 have HSIT1:=Lib.hid hsit1
 have HSIT7:=Lib.hid hsit7
 have HB7:=Lib.hid hb7
 have HSX:=Lib.hid hsx
 have HSO1:=Lib.hid hso1
 have HKW7:=Lib.hid kw7
 have HLR:=Lib.hid hl1
 have hr1:M1.room=300:=hgr1.room
 have HR1:=Lib.hid hr1
 have hsubF1:∀ k,F1 k → (w2.heap.size ≤ k ∧ k < w3.heap.size) ∨ w6.heap.size ≤ k:=fun k hk=>by
  rcases sub1 k hk with h | h
  ·exact .inl ⟨HLO0.out k (.inl h),hltF k (.inl h)⟩
  ·exact .inr h
 clear hbt1 hgr1 hsol1 hst1 hsit1 hsit7 hb7 sub1 upd1 hsx hso1 hl1 kw7 hltF hr1
 go_wp2_with fail
 obtain ⟨W7,hW7⟩:∃ W,W=w7.alloc (.cells #[.int .u8 x.tag,.int .u32 x.to] 37):=⟨_,rfl⟩
 have hk7:Keeps w7 W7:=by rw [hW7];exact (Keeps.refl w7).alloc _
 have x7:W7.cell? ⟨w7.heap.size,0,none⟩=some (.int .u8 x.tag):=by rw [hW7];simp
 have x71:W7.cell? ⟨w7.heap.size,1,none⟩=some (.int .u32 x.to):=by rw [hW7];simp
 rw [← hW7]
 clear hW7
 have hkr:kRight M1 f x 0=true:=kRight_of HF.out HSX.out.lead HSX.out.right
 have hc0:saveCode M1 ps.length f x=0:=by
  unfold saveCode
  rw [if_pos HSIT1.out.n,if_pos (by have:=HF.out;unfold isFormB;simp;omega),if_pos hkr]
 have hsv:=save_calls (HSIT1.out.rep.keeps hk7) (HSIT1.out.ord.keeps hk7) f (by have:=HF.out;omega) x hxok
 have HSV:=Lib.hid hsv
 clear hsv
 refine HSV.out.mono ?_
 rintro e w8 hh
 rcases hh with ⟨-,v,rfl,hrow,hk8⟩ | ⟨hq,_⟩
 case inr=>exact absurd hc0 hq
 have hfa1:FitA M1:=fun id r hl=>HSIT1.out.rep.fit hl
 have hpr:=perm_range2 HP.out
 have hnum:=numM_solid HSIT1.out.rep.wf hfa1 HSO1.out x.to (k:=63) (by have:=HLR.out;omega)
 have hBl:=saveB_short HSIT1.out.rep.wf hfa1 hpr.2 (by rw [← HK.out];exact h6) (f:=f) (by have:=HF.out;omega) hxok hnum (by decide)
 have hBs:=saveB_bs M1 ps f x
 have hBp:0 < (saveB M1 ps f x).length:=by
  have:=putB_pos M1.n.toNat
  unfold saveB
  simp only [List.length_append]
  omega
 obtain ⟨M9,ids9,hg9⟩:=save_good HSIT1.out.rep.wf hfa1 HSIT1.out.rep.few HP.out HSIT1.out.n HF.out hxok hkr
 have hsl:=fun (T:Txt) (M0:St) (ids:List Int) (hg:GoodF (saveB M1 ps f x) T M0 ids)=>saved_loads HSIT1.out.rep.wf hfa1 HSIT1.out.rep.few HP.out HSIT1.out.n HF.out HSX.out (by omega) hg
 have hnds:=stands_nodes HSIT1.out.rep HF.out HP.out HSIT1.out.n (by rw [← HK.out];exact h6) (by have:=HLR.out;omega) HSX.out
 have hsb:=fun (T:Txt) (M0:St) (ids:List Int) (hg:GoodF (saveB M1 ps f x) T M0 ids)=>saved_bytes HSIT1.out.rep.wf hfa1 HSIT1.out.rep.few HP.out HSIT1.out.n HSX.out hg
 obtain ⟨B,hB⟩:∃ B,B=saveB M1 ps f x:=⟨_,rfl⟩
 rw [← hB] at hrow hBl hBs hBp hg9
 simp only [← hB] at hsl hsb
 obtain ⟨C,hC⟩:∃ C,C=(numM M1 x.to []).length:=⟨_,rfl⟩
 simp only [← hC] at hsl hsb
 rw [← hC] at hnds hnum
 obtain ⟨g4,cap4,rfl,hb4,hc4,hg4⟩:=hrow.shape hBp
 have x0:w8.cell? ⟨w7.heap.size,0,none⟩=some (.int .u8 x.tag):=hk8.cell x7
 have x1:w8.cell? ⟨w7.heap.size,1,none⟩=some (.int .u32 x.to):=hk8.cell x71
 have hk78:=hk7.trans hk8
 obtain ⟨a9,cap9,hsl9,hat9⟩:=hrow.slice
 cases hsl9
 obtain ⟨L,hL⟩:∃ L,L=B.length:=⟨_,rfl⟩
 have hldf:=fun (G Go':Nat → Prop) (W:World) (tb rb:Nat) (M:St) (q1:StoreRep G W tb M) (q2:OrdRep Go' W rb ps) (q3:BsAt W (some ⟨g4,0,none⟩) B)=>by
  have:=load_calls q1 q2 (some ⟨g4,0,none⟩) cap4 B q3 hBs (by omega) hc4
  rw [← hL] at this
  exact this
 have hpk:=fun (W:World) (q3:BsAt W (some ⟨g4,0,none⟩) B)=>by
  have:=peek_calls (some ⟨g4,0,none⟩) cap4 B W q3 hBs (by omega) hc4
  rw [← hL] at this
  exact this
 have hs04:=fun (a5:Option Addr) (c5:Nat) (W:World) (q5:BsAt W a5 B) (q3:BsAt W (some ⟨g4,0,none⟩) B)=>by
  have:=same04_calls a5 (some ⟨g4,0,none⟩) c5 cap4 B B W q5 q3 (by omega) (by omega)
  rw [← hL,decide_eq_true rfl] at this
  exact this
 have hn2:(fun (S:ByteArray)=>∀ W:World,Calls Tryz.prog 27 #[.string S] W fun e w'=>∃ a cap,e=.returned (.slice a C cap) ∧ Keeps W w') (termK f K (bldT (hasB (wordsL bs)) ps 0) 0):=fun W=>by
  have:=HND.out bs W
  rw [← HK.out] at hnds
  rw [hnds] at this
  exact this
 have ht2:=fun (cap:Nat)=>HTM.out w1.heap.size cap bs HBL.out
 obtain ⟨S,hS⟩:∃ S,S=termK f K (bldT (hasB (wordsL bs)) ps 0) 0:=⟨_,rfl⟩
 rw [← hS] at hn2
 simp only [← hS] at ht2
 have hld1:=hldf _ _ _ _ _ _ (HSIT1.out.rep.keeps hk78) (HSIT1.out.ord.keeps hk78) hat9
 rw [← hL]
 have HLD1:=Lib.hid hld1
 have HLDF:=Lib.hid hldf
 have HPK:=Lib.hid hpk
 have HS04:=Lib.hid hs04
 have HG9:=Lib.hid hg9
 have HSL:=Lib.hid hsl
 have HSBY:=Lib.hid hsb
 have HAT8:=Lib.hid hat9
 have HB8:=Lib.hid (HB7.out.keep (Keeps.upd hk78 (fun _=>False)) (fun h=>h))
 have HSIT8:=Lib.hid (HSIT7.out.keeps hk78)
 have HKW8:=Lib.hid (HKW7.out.trans hk78)
 have HN2:=Lib.hid hn2
 have HT2:=Lib.hid ht2
 have HL:=Lib.hid hL
 have HSUB1:=Lib.hid hsubF1
 have hBlt:=HB.out.lt
 have s78:=hk78.size
 have s77:=hk7.size
 clear hfa1 hpr hB hrow hBs hk8 hc0 hkr hg9 hsl hsb hnds hC hat9 hld1 hldf hpk hs04 hn2 ht2 hS HND HTM HSV HBO1 HBA HST HSU hBl hL x7 x71
 go_wp2_with fail
 refine HLD1.out.mono ?_
 rintro e w12 hld
 rcases hld with ⟨hne,_⟩ | ⟨_,hno,_⟩ | ⟨_,T,M0,ids,hg,hh⟩
 ·exact absurd HSIT1.out.n hne
 ·exact absurd HG9.out (hno _ _ _)
 obtain ⟨t1,t2,t3⟩:=HSL.out T M0 ids hg
 rcases hh with ⟨hpm,_⟩ | ⟨hpm,er,M2,ids2,F3,hput,hres,hu,hS3,hF3⟩
 ·exact absurd t1 hpm
 rcases t3 M1 HSIT1.out.rep.wf HSIT1.out.n er M2 ids2 hput hS3.few with ⟨rfl,hy,q1,q2,q3,q4,q5,q6⟩ | ⟨rfl,q1⟩
 case inr=>
  have:=HLR.out
  have:=HR1.out
  omega
 rcases hres with ⟨_,y,hyy,rfl⟩ | ⟨hq,_⟩
 case inr=>exact absurd rfl hq
 rw [← hyy] at hy
 have hyx:y=x:=saved_same HSIT1.out.rep.wf HF.out HP.out HSIT1.out.n (by rw [← HK.out];exact h6) HSX.out q4 q5 hS3.fit0 (by have:=HLR.out;omega) hy
 rw [hyx,t2]
 have hlF1:∀ k,F1 k → k < w7.heap.size ∧ ((w2.heap.size ≤ k ∧ k < w3.heap.size) ∨ w6.heap.size ≤ k):=fun k hk=>⟨HSIT1.out.rep.lt k hk,HSUB1.out k hk⟩
 have x0':=hu.cellAt (fun hh=>by have:=hlF1 _ hh;omega) x0
 have x1':=hu.cellAt (fun hh=>by have:=hlF1 _ hh;omega) x1
 have hsit12:Sit F2 Fq w12 ub qb (St.new (K:Int) 900) ps:=⟨HSIT8.out.rep.keep hu (fun k h1 h2=>by have q1:=HLO2.out k (.inl h1);have q2:=hlF1 k h2;have q3:=HSIT2.out.rep.lt k h1;omega),HSIT8.out.ord.keep hu (fun k h1 h2=>by have q1:=HLO2.out k (.inr h1);have q2:=hlF1 k h2;have q3:=HSIT2.out.ord.lt k h1;omega),HSIT2.out.dis,HSIT2.out.n,HSIT2.out.room⟩
 have hat12:BsAt w12 (some ⟨g4,0,none⟩) B:=fun j q hq=>by
  obtain ⟨b,off,e1,e2⟩:=HAT8.out j q hq
  cases e1
  exact ⟨g4,0,rfl,hu.cellAt (fun hh=>by have:=hlF1 _ hh;omega) e2⟩
 have HSIT12:=Lib.hid hsit12
 have HAT12:=Lib.hid hat12
 have HB12:=Lib.hid (HB8.out.keep hu (fun hh=>by have:=hlF1 _ hh;omega))
 have HKW12:=Lib.hid (HKW8.out.new hu (fun k hk=>by have:=hlF1 k hk;omega))
 have s812:=hu.size
 have x7l:w7.heap.size < w12.heap.size:=lt_of_cell x0'
 have x7n:w7.heap.size ≠ w12.heap.size:=by omega
 clear hy q1 q2 q3 q4 q5 q6 hyy hput hu hS3 hF3 hg t1 t2 t3 hpm hyx hlF1 x0 x1 hsit12 hat12 HSIT0 HSIT1 HSIT6 HSIT7 HSIT8 HB7 HB6 HB8 HAT8 HLD1 HSUB1
 go_wp2_with fail
 go_loopg [25] 5 (fun gk s25 wr=>∃ (j:Nat) (Mk:St) (Gk:Nat → Prop),j + gk=5 ∧ s25=.int .u8 ((j + 1:Nat):Int) ∧ Sit Gk Fq wr ub qb Mk ps ∧ (∀ i,Gk i → F2 i ∨ w12.heap.size ≤ i) ∧ Upd (fun i=>F2 i ∨ Fq i) w12 wr ∧ Mk.len ≤ 63 * (j:Int) ∧ Mk.room=900)
 case atStart=>exact ⟨0,_,F2,rfl,rfl,HSIT12.out.keeps ((Keeps.refl w12).alloc _),fun i h=>.inl h,Keeps.upd ((Keeps.refl w12).alloc _) _,by show (0:Int) ≤ 63 * ((0:Nat):Int);decide,rfl⟩
 case round=>
  obtain ⟨j,Mk,Gk,hj,rfl,hS,hsub,hupd,hlen,hroom⟩:=hrel
  have HS:=Lib.hid hS
  have HSUB:=Lib.hid hsub
  have HUPD:=Lib.hid hupd
  have HLEN:Hid (Mk.len ≤ 63 * (j:Int) ∧ Mk.room=900):=Lib.hid ⟨hlen,hroom⟩
  clear hS hsub hupd hlen hroom
  by_cases hlt:j < 5
  ·go_wp2_with fail
   refine (HBC.out _).mono ?_
   rintro e v1 ⟨cs,hcl,rfl,hC,hkc⟩
   have HCL:=Lib.hid hcl
   have HKC:=Lib.hid hkc
   have sc:=hkc.size
   have HOFC:=Lib.hid (HOF.out _ cs hcl _ hC)
   clear hcl hkc hC
   go_wp2_with fail
   refine HOFC.out.mono ?_
   rintro e v2 ⟨G2,hG2,rfl,hU2,hk2'⟩
   have hkv2:=HKC.out.trans hk2'
   have HSV2:=Lib.hid (HS.out.keeps hkv2)
   have HBO2:=Lib.hid (HBO.out ((j:Int) + 1) (by omega) Gk Fq v2 ub qb Mk G2 cs HCL.out (HS.out.keeps hkv2) hU2 (fun hh=>by have:=HS.out.rep.lt _ hh;omega) (by have:=HLEN.out;omega))
   have HKV2:=Lib.hid hkv2
   clear hU2 hk2' hkv2
   go_wp2_with fail
   refine HBO2.out.mono ?_
   rintro e v3 ⟨z,M4,rfl,hzok,hbt,⟨hgr,hsol⟩,hst⟩
   obtain ⟨G3,hsit3,sub3,upd3⟩:=sit_built HSV2.out hgr hst
   have HSIT3:=Lib.hid hsit3
   have HSUB3:=Lib.hid sub3
   have HUPD3:=Lib.hid upd3
   have HGR:=Lib.hid hgr
   clear hzok hbt hgr hsol hst hsit3 sub3 upd3
   go_wp2_with fail
   go_roundg (gk - 1)
   case rel=>
    have kk:Keeps v3 (v3.alloc (.cells #[.int .u8 z.tag,.int .u32 z.to] 37)):=(Keeps.refl v3).alloc _
    have s1:=HUPD.out.size
    have s2:=HKV2.out.size
    have hu3:Upd (fun i=>F2 i ∨ Fq i) w12 v3:=(Upd.trans' HUPD.out (Keeps.upd HKV2.out _)).trans (HUPD3.out.mono (fun i hi hg=>by
     rcases hg with hg | hg
     ·rcases HSUB.out i hg with q | q
      ·exact .inl (.inl q)
      ·exact .inr ⟨by omega,by omega⟩
     ·exact .inl (.inr hg)))
    have q1:=HGR.out.len
    have q2:=HGR.out.room
    have q3:=HLEN.out
    have h64:2 ^ ps.length ≤ 64:=by rw [← HK.out,← HPP.out];exact hp6
    refine ⟨j + 1,M4,G3,by omega,by simp,HSIT3.out.keeps kk,fun i hi=>?_,Upd.trans' hu3 (Keeps.upd kk _),by push_cast;omega,by omega⟩
    rcases HSUB3.out i hi with q | q
    ·exact HSUB.out i q
    ·exact .inr (by omega)
   case measure=>omega
  ·obtain rfl:j=5:=by omega
   have l4:∀ k,F2 k ∨ Fq k → k < w4.heap.size:=fun k hk=>by
    rcases hk with hk | hk
    ·exact HSIT2.out.rep.lt k hk
    ·exact HSIT2.out.ord.lt k hk
   have hatr:BsAt wr (some ⟨g4,0,none⟩) B:=fun j q hq=>by
    obtain ⟨b,off,e1,e2⟩:=HAT12.out j q hq
    cases e1
    exact ⟨g4,0,rfl,HUPD.out.cellAt (fun hh=>by have:=l4 _ hh;omega) e2⟩
   have hbr:BoolsAt wr w1.heap.size bs:=HB12.out.keep HUPD.out (fun hh=>by have:=HLO2.out _ hh;omega)
   have hkwr:Keeps w wr:=HKW12.out.new HUPD.out (fun k hk=>by have:=HLO2.out k hk;omega)
   have HATR:=Lib.hid hatr
   have HBR:=Lib.hid hbr
   have HKWR:=Lib.hid hkwr
   have HLDU:=Lib.hid (HLDF.out Gk Fq wr ub qb Mk HS.out.rep HS.out.ord hatr)
   clear hatr hbr hkwr l4 HLDF x0' x1'
   go_wp2_with fail
   refine HLDU.out.mono ?_
   rintro e v4 hld
   rcases hld with ⟨hne,_⟩ | ⟨_,hno,_⟩ | ⟨_,T,M0,ids,hg,hh⟩
   ·exact absurd HS.out.n hne
   ·exact absurd HG9.out (hno _ _ _)
   obtain ⟨t1,t2,t3⟩:=HSL.out T M0 ids hg
   obtain ⟨b1,b2,b3⟩:=HSBY.out T M0 ids hg
   rcases hh with ⟨hpm,_⟩ | ⟨hpm,er,M5,ids5,F5,hput,hres,hu,hS5,hF5⟩
   ·exact absurd t1 hpm
   rcases t3 Mk HS.out.rep.wf HS.out.n er M5 ids5 hput hS5.few with ⟨rfl,hz,q1,q2,q3,q4,q5,q6⟩ | ⟨rfl,q1⟩
   case inr=>
    have:=HLEN.out
    omega
   rcases hres with ⟨_,z,hzz,rfl⟩ | ⟨hq,_⟩
   case inr=>exact absurd rfl hq
   have hb5:=b3 Mk HS.out.rep.wf HS.out.n M5 ids5 hput
   rw [← hzz] at hz hb5
   have hn5:M5.n=(ps.length:Int):=q4.n.trans HS.out.n
   have hl5:M5.len + 128 ≤ 1048576:=by have:=HLEN.out;omega
   have hO5:=HS.out.ord.keep hu (fun j h1 h2=>HS.out.dis j h2 h1)
   have hc5:saveCode M5 ps.length f z=0:=by
    unfold saveCode
    rw [if_pos hn5,if_pos (by have:=HF.out;unfold isFormB;simp;omega),if_pos (kRight_of HF.out hz.lead hz.right)]
   have hsv5:∀ W,Keeps v4 W → Calls Tryz.prog 25 #[.pointer (some ⟨ub,0,none⟩),.pointer (some ⟨qb,0,none⟩),.int .u8 f,.agg #[.int .u8 z.tag,.int .u32 z.to]] W fun r w'=>∃ a5 c5,r=.returned (.tuple #[.slice a5 L c5,.int .u8 0]) ∧ BsAt w' a5 B ∧ Keeps W w':=fun W hW=>(save_calls (hS5.keeps hW) (hO5.keeps hW) f (by have:=HF.out;omega) z hz.ok).mono fun r w' hh=>by
    rcases hh with ⟨_,v,rfl,hx,hk⟩ | ⟨hq,_⟩
    ·obtain ⟨a5,c5,rfl,hat⟩:=hx.slice
     rw [hb5] at hat ⊢
     rw [HL.out]
     exact ⟨a5,c5,rfl,hat,hk⟩
    ·exact absurd hc5 hq
   have lG:∀ k,Gk k → (w3.heap.size ≤ k ∧ k < w4.heap.size) ∨ w12.heap.size ≤ k:=fun k hk=>by
    rcases HSUB.out k hk with q | q
    ·exact .inl ⟨HLO2.out k (.inl q),HSIT2.out.rep.lt k q⟩
    ·exact .inr q
   have g4l:g4 < w12.heap.size:=by omega
   have hat4:BsAt v4 (some ⟨g4,0,none⟩) B:=fun j q hq=>by
    obtain ⟨b,off,e1,e2⟩:=HATR.out j q hq
    cases e1
    exact ⟨g4,0,rfl,hu.cellAt (fun hh=>by have:=lG _ hh;omega) e2⟩
   have hb4:BoolsAt v4 w1.heap.size bs:=HBR.out.keep hu (fun hh=>by have:=lG _ hh;omega)
   have hkw4:Keeps w v4:=HKWR.out.new hu (fun k hk=>by have:=lG k hk;omega)
   have HAT4:=Lib.hid hat4
   have HB4:=Lib.hid hb4
   have HKW4:=Lib.hid hkw4
   have HSV5:=Lib.hid hsv5
   have his5:=fun (cap:Nat) (W:World) (hW:Keeps v4 W)=>HIS.out w1.heap.size cap bs HBL.out F5 W (hkw4.trans hW) (HB4.out.keep (Keeps.upd hW (fun _=>False)) (fun h=>h)) ub M5 z (hS5.keeps hW) (hn5.trans (by rw [HK.out])) hl5 hz
   have HI5:=Lib.hid his5
   rw [t2]
   clear hg t1 t2 t3 b1 b2 b3 hpm hput hu hS5 hF5 hz q1 q2 q3 q4 q5 q6 hzz hb5 hn5 hl5 hO5 hc5 hsv5 lG hat4 hb4 hkw4 his5 HLDU HIS
   go_wp2_with fail
   refine (HSV5.out _ (by (exact kp))).mono ?_
   rintro e v5 ⟨a5,c5,rfl,hat5,hk5⟩
   have z0:v5.cell? ⟨v4.heap.size,0,none⟩=some (.int .u8 z.tag):=hk5.cell (by simp)
   have z1:v5.cell? ⟨v4.heap.size,1,none⟩=some (.int .u32 z.to):=hk5.cell (by simp)
   have hk45:Keeps v4 v5:=by (exact kp)
   have HAT5:=Lib.hid hat5
   clear hat5 hk5
   go_wp2_with fail
   refine (HPK.out _ (HAT4.out.keeps hk45)).mono ?_
   rintro e v6 ⟨hk6,hpk⟩
   rcases hpk with ⟨T6,M6,ids6,pa,pcap,hg6,rfl,hpi⟩ | ⟨hno,_⟩
   case inr=>exact absurd HG9.out (hno _ _ _)
   obtain ⟨p1,p2,-⟩:=HSL.out T6 M6 ids6 hg6
   obtain ⟨p3,p4,-⟩:=HSBY.out T6 M6 ids6 hg6
   rw [p1] at hpi
   rw [p2,p3,p4,p1,← HK.out]
   have hsp:∀ W,Keeps v6 W → Calls Tryz.prog 13 #[.slice pa K pcap,.slice a1 K cap1] W fun e w'=>e=.returned (.bool true) ∧ Keeps W w':=fun W hW=>by
    have:=refSame_calls pa a1 pcap cap1 ps ps W (hpi.keeps hW) (HPS.out.keeps (HKW4.out.trans ((hk45.trans hk6).trans hW))) (by rw [← HK.out];omega) (by rw [← HK.out];omega)
    rw [← HK.out,decide_eq_true rfl] at this
    exact this
   have HSP:=Lib.hid hsp
   replace z0:=hk6.cell z0
   replace z1:=hk6.cell z1
   have HK46:=Lib.hid (hk45.trans hk6)
   have HAT6:=Lib.hid (HAT5.out.keeps hk6)
   clear hk45 hk6 hpi p1 p2 p3 p4 hg6 hsp HAT5
   go_wp2_with fail
   obtain ⟨W7,hW7⟩:∃ W,W=v6.alloc (.cells #[.int .i64 (K:Int),.int .u8 f,.slice pa K pcap,.int .i64 (C:Int)] 41):=⟨_,rfl⟩
   have hk7':Keeps v6 W7:=by rw [hW7];exact (Keeps.refl v6).alloc _
   have h0:W7.cell? ⟨v6.heap.size,0,none⟩=some (.int .i64 (K:Int)):=by rw [hW7];simp
   have h1:W7.cell? ⟨v6.heap.size,1,none⟩=some (.int .u8 f):=by rw [hW7];simp
   have h2:W7.cell? ⟨v6.heap.size,2,none⟩=some (.slice pa K pcap):=by rw [hW7];simp
   have h3:W7.cell? ⟨v6.heap.size,3,none⟩=some (.int .i64 (C:Int)):=by rw [hW7];simp
   replace z0:=hk7'.cell z0
   replace z1:=hk7'.cell z1
   rw [← hW7]
   have HK47:=Lib.hid (HK46.out.trans hk7')
   have HK67:=Lib.hid hk7'
   have HAT7:=Lib.hid (HAT6.out.keeps hk7')
   have hkw7:Keeps w W7:=HKW4.out.trans HK47.out
   have HIQ:=Lib.hid (fun (cap:Nat) (W:World) (hW:Keeps W7 W)=>HI5.out cap W (HK47.out.trans hW))
   have HPQ:=Lib.hid (fun (W:World) (hW:Keeps W7 W)=>HSP.out W (HK67.out.trans hW))
   have HTQ:=Lib.hid (fun (cap:Nat) (W:World) (hW:Keeps W7 W)=>HT2.out cap W (hkw7.trans hW) (HB4.out.keep (Keeps.upd (HK47.out.trans hW) (fun _=>False)) (fun h=>h)))
   have HSQ:=Lib.hid (fun (W:World) (hW:Keeps W7 W)=>HS04.out a5 c5 W (HAT7.out.keeps hW) (HAT4.out.keeps (HK47.out.trans hW)))
   have HKW7':=Lib.hid hkw7
   clear hk7' hkw7 hW7 HK46 HAT6 HAT7 HSP HI5
   go_region_held3 (fun w'=>w'.cell? ⟨v4.heap.size,0,none⟩=some (.int .u8 z.tag) ∧ w'.cell? ⟨v4.heap.size,1,none⟩=some (.int .u32 z.to) ∧ w'.cell? ⟨v6.heap.size,0,none⟩=some (.int .i64 (K:Int)) ∧ w'.cell? ⟨v6.heap.size,1,none⟩=some (.int .u8 f) ∧ w'.cell? ⟨v6.heap.size,2,none⟩=some (.slice pa K pcap) ∧ w'.cell? ⟨v6.heap.size,3,none⟩=some (.int .i64 (C:Int))) (go_keep) ((first
    | (go_at_call 26;refine (HIQ.out _ _ (by (exact kp))).mono ?_;rintro e' x1 ⟨rfl,hx1⟩;have z0_1:=hx1.cell (a:=⟨v4.heap.size,0,none⟩) (v:=.int .u8 z.tag) (by go_keep);have z1_1:=hx1.cell (a:=⟨v4.heap.size,1,none⟩) (v:=.int .u32 z.to) (by go_keep);have h0_1:=hx1.cell (a:=⟨v6.heap.size,0,none⟩) (v:=.int .i64 (K:Int)) (by go_keep);have h1_1:=hx1.cell (a:=⟨v6.heap.size,1,none⟩) (v:=.int .u8 f) (by go_keep);have h2_1:=hx1.cell (a:=⟨v6.heap.size,2,none⟩) (v:=.slice pa K pcap) (by go_keep);have h3_1:=hx1.cell (a:=⟨v6.heap.size,3,none⟩) (v:=.int .i64 (C:Int)) (by go_keep))
    | (go_at_call 18;refine (HSQ.out _ (by (exact kp))).mono ?_;rintro e' x2 ⟨rfl,hx2⟩;have z0_2:=hx2.cell (a:=⟨v4.heap.size,0,none⟩) (v:=.int .u8 z.tag) (by go_keep);have z1_2:=hx2.cell (a:=⟨v4.heap.size,1,none⟩) (v:=.int .u32 z.to) (by go_keep);have h0_2:=hx2.cell (a:=⟨v6.heap.size,0,none⟩) (v:=.int .i64 (K:Int)) (by go_keep);have h1_2:=hx2.cell (a:=⟨v6.heap.size,1,none⟩) (v:=.int .u8 f) (by go_keep);have h2_2:=hx2.cell (a:=⟨v6.heap.size,2,none⟩) (v:=.slice pa K pcap) (by go_keep);have h3_2:=hx2.cell (a:=⟨v6.heap.size,3,none⟩) (v:=.int .i64 (C:Int)) (by go_keep))
    | (go_at_call 13;refine (HPQ.out _ (by (exact kp))).mono ?_;rintro e' x3 ⟨rfl,hx3⟩;have z0_3:=hx3.cell (a:=⟨v4.heap.size,0,none⟩) (v:=.int .u8 z.tag) (by go_keep);have z1_3:=hx3.cell (a:=⟨v4.heap.size,1,none⟩) (v:=.int .u32 z.to) (by go_keep);have h0_3:=hx3.cell (a:=⟨v6.heap.size,0,none⟩) (v:=.int .i64 (K:Int)) (by go_keep);have h1_3:=hx3.cell (a:=⟨v6.heap.size,1,none⟩) (v:=.int .u8 f) (by go_keep);have h2_3:=hx3.cell (a:=⟨v6.heap.size,2,none⟩) (v:=.slice pa K pcap) (by go_keep);have h3_3:=hx3.cell (a:=⟨v6.heap.size,3,none⟩) (v:=.int .i64 (C:Int)) (by go_keep))
    | (go_at_call 28;refine (HTQ.out _ _ (by (exact kp))).mono ?_;rintro e' x4 ⟨rfl,hx4⟩;have z0_4:=hx4.cell (a:=⟨v4.heap.size,0,none⟩) (v:=.int .u8 z.tag) (by go_keep);have z1_4:=hx4.cell (a:=⟨v4.heap.size,1,none⟩) (v:=.int .u32 z.to) (by go_keep);have h0_4:=hx4.cell (a:=⟨v6.heap.size,0,none⟩) (v:=.int .i64 (K:Int)) (by go_keep);have h1_4:=hx4.cell (a:=⟨v6.heap.size,1,none⟩) (v:=.int .u8 f) (by go_keep);have h2_4:=hx4.cell (a:=⟨v6.heap.size,2,none⟩) (v:=.slice pa K pcap) (by go_keep);have h3_4:=hx4.cell (a:=⟨v6.heap.size,3,none⟩) (v:=.int .i64 (C:Int)) (by go_keep))
    | (go_at_call 27;refine (HN2.out _).mono ?_;rintro e' x5 ⟨na,ncap,rfl,hx5⟩;have z0_5:=hx5.cell (a:=⟨v4.heap.size,0,none⟩) (v:=.int .u8 z.tag) (by go_keep);have z1_5:=hx5.cell (a:=⟨v4.heap.size,1,none⟩) (v:=.int .u32 z.to) (by go_keep);have h0_5:=hx5.cell (a:=⟨v6.heap.size,0,none⟩) (v:=.int .i64 (K:Int)) (by go_keep);have h1_5:=hx5.cell (a:=⟨v6.heap.size,1,none⟩) (v:=.int .u8 f) (by go_keep);have h2_5:=hx5.cell (a:=⟨v6.heap.size,2,none⟩) (v:=.slice pa K pcap) (by go_keep);have h3_5:=hx5.cell (a:=⟨v6.heap.size,3,none⟩) (v:=.int .i64 (C:Int)) (by go_keep))
    | fail))
   all_goals go_wp2
   all_goals go_ret
   all_goals exact ⟨rfl,by have hkw:=HKW7'.out;(exact kp)⟩

set_option maxRecDepth 100000 in
theorem saveBack_out (a1:Option Addr) (cap1:Nat) (ps:List Int) (f a c:Int) (w:World) (hps:IntsAt w a1 ps) (h:6 < ps.length ∨ permB ps=false ∨ f < 1 ∨ 5 < f) :
  Calls Tryz.prog 4 #[.slice a1 ps.length cap1,.int .u8 f,.int .u64 a,.int .u64 c] w fun e w'=>e=.returned (.bool true) ∧ Keeps w w':=by
 by_cases h5:6 < ps.length
 ·have g1:(6:Int) < (ps.length:Int):=by omega
  clear h
  go_enter Tryz.func4,Tryz.ntmps4
  go_wp2_with fail
  refine (l28_alive _).mono ?_
  rintro e w1 ⟨rfl,hk1⟩
  go_wp2_with fail
  all_goals (go_ret;exact ⟨rfl,by (exact kp)⟩)
 ·have HRP:=Lib.hid (fun (W:World) (hW:Keeps w W)=>refRight_calls a1 cap1 ps W (hps.keeps hW) (by omega))
  have g1:¬ (6:Int) < (ps.length:Int):=by omega
  cases hp:permB ps with
  | false=>
   rw [hp] at HRP
   clear h hp
   go_enter Tryz.func4,Tryz.ntmps4
   go_wp2_with fail
   refine (l28_alive _).mono ?_
   rintro e w1 ⟨rfl,hk1⟩
   go_wp2_with (first | (go_at_call 14;refine (HRP.out _ hk1).mono ?_;rintro e w2 ⟨rfl,rfl⟩) | fail)
   all_goals (go_ret;exact ⟨rfl,by (exact kp)⟩)
  | true=>
   rw [hp] at HRP h
   go_enter Tryz.func4,Tryz.ntmps4
   go_wp2_with fail
   refine (l28_alive _).mono ?_
   rintro e w1 ⟨rfl,hk1⟩
   by_cases h3:f < 1
   ·clear h
    go_wp2_with (first | (go_at_call 14;refine (HRP.out _ hk1).mono ?_;rintro e w2 ⟨rfl,rfl⟩) | fail)
    all_goals (go_ret;exact ⟨rfl,by (exact kp)⟩)
   ·have h4:5 < f:=by
     rcases h with h | h | h | h
     ·exact absurd h h5
     ·cases h
     ·exact absurd h h3
     ·exact h
    clear h
    go_wp2_with (first | (go_at_call 14;refine (HRP.out _ hk1).mono ?_;rintro e w2 ⟨rfl,rfl⟩) | fail)
    all_goals (go_ret;exact ⟨rfl,by (exact kp)⟩)

theorem saveBack_walk (a1:Option Addr) (l1 cap1:Nat) (ps:List Int) (f a c:Int) (w:World) (hps:IsInts w a1 l1 ps) (_:(Lit.int .u8 f).wf=true) (ha:(Lit.int .u64 a).wf=true) (hc:(Lit.int .u64 c).wf=true) :
  Calls Tryz.prog 4 #[.slice a1 l1 cap1,.int .u8 f,.int .u64 a,.int .u64 c] w fun e w'=>e=.returned (.bool true) ∧ Keeps w w':=by
 have hmin6:IntKind.u64.min=0:=rfl
 have hmax6:IntKind.u64.max=18446744073709551615:=rfl
 have hcu:0 ≤ c ∧ c ≤ 18446744073709551615:=by simp [Lit.wf,hmin6,hmax6] at hc;exact hc
 have hau:0 ≤ a ∧ a ≤ 18446744073709551615:=by simp [Lit.wf,hmin6,hmax6] at ha;exact ha
 obtain ⟨rfl,hI,-⟩:=hps
 by_cases h:6 < ps.length ∨ permB ps=false ∨ f < 1 ∨ 5 < f
 ·exact saveBack_out a1 cap1 ps f a c w hI h
 ·have hp:permB ps=true:=by
   cases hp:permB ps with
   | true=>rfl
   | false=>exact absurd (.inr (.inl hp)) h
  exact saveBack_in a1 cap1 ps f a c w hI (by omega) hp (by omega) hau.1 hau.2 hcu.1 hcu.2

set_option maxRecDepth 100000 in
theorem saveBack_lifted (os:Os) (started:os.Started) (H:Type) (enc:TypeId × Value → H) :
  ReturnsInHanded {} Tryz.checked os 4 .any (Rows.saveBackSpec.pre6 enc Tryz.prog Tryz.f4 Rows.saveBackRow.domain false) (Rows.saveBackSpec.post enc Tryz.prog Tryz.f4 false true false false):=by
 refine returnsInHanded_of_change (C:=Tryz.checked) own started (by kernel_rfl) Tryz.func4
  (ChangeSpec.witness6 (enc:=enc) (C:=Tryz.checked) false ⟨#[],#[.slice none 0 0,.int .u8 0,.int .u64 0,.int .u64 0],[]⟩ 12 (by kernel_rfl) (by kernel_rfl) (by kernel_rfl) (by kernel_rfl)) ?_
 intro W base args ds gs before hval0 hW hcnd _
 have hval:∀ (j:Nat) t v,Tryz.f4.params[j]?=some t → args[j]?=some v → Value.okWide Tryz.prog W .any base t v:=hval0
 have hW':=hW
 obtain ⟨p,q,hA0,hV,rfl,hfz,hnd⟩:=hW
 have hA:DataW.TrodAll enc Tryz.prog W 0 (fun _=>true) true Tryz.f4.params.toList args.toList ds p:=hA0
 rw [Tryz.params4] at hA hval
 have hAk:=hA
 obtain ⟨v0,vs0,d0,ds0,p0,q0,hargs,rfl,rfl,h0,r0⟩:=trodAll_cons hA
 obtain ⟨v1,vs1,d1,ds1,p1,q1,rfl,rfl,rfl,h1,r1⟩:=trodAll_cons r0
 obtain ⟨v2,vs2,d2,ds2,p2,q2,rfl,rfl,rfl,h2,r2⟩:=trodAll_cons r1
 obtain ⟨v3,vs3,d3,ds3,p3,q3,rfl,rfl,rfl,h3,r3⟩:=trodAll_cons r2
 obtain ⟨rfl,rfl,rfl⟩:=trodAll_nil r3
 obtain rfl:args=#[v0,v1,v2,v3]:=by cases args;simp_all
 obtain ⟨rfl,rfl⟩:=trodVars_none hV
 obtain ⟨a0,len0,cap0,rfl⟩:=okWide_slice Tryz.underlying23 (hval 0 23 v0 rfl rfl)
 obtain ⟨rs0,w0⟩:=open_intRow h0
 obtain ⟨a1,rfl,rfl,rfl,w1⟩:=open_int Tryz.underlying5 (hval 1 5 v1 rfl rfl) h1
 obtain ⟨a2,rfl,rfl,rfl,w2⟩:=open_int Tryz.underlying60 (hval 2 60 v2 rfl rfl) h2
 obtain ⟨a3,rfl,rfl,rfl,w3⟩:=open_int Tryz.underlying60 (hval 3 60 v3 rfl rfl) h3
 clear hA0 hval0
 refine (saveBack_walk a0 len0 cap0 rs0 a1 a2 a3 W w0 w1 w2 w3).mono fun e W' ⟨he,bel⟩=>?_
 subst he
 exact ⟨_,rfl,_,_,_,[],_,[],hW',trodAll_mk1 (shut_bool Tryz.underlying4 _),trodAll_below laidOut bel _ _ _ _ (by kernel_rfl) hAk,rfl,Below.frame bel _,fun h=>by cases h⟩

set_option maxHeartbeats 8000000 in
theorem saveBack_over:Rows.saveBackRow.holds Tryz.pinned (OpenSpec.ofChange Rows.saveBackSpec):=
 OpenClaim.holds_of_wide 4 Tryz.f4 rfl rfl rfl rfl rfl rfl rfl ⟨rfl,rfl,rfl,rfl,rfl⟩ rfl rfl rfl rfl rfl (by as_aux_lemma=>kernel_rfl) Tryz.func4 (by unfold joinedFacts;(repeat' with_reducible refine Bool.and_eq_true_iff.2 ⟨?_,?_⟩);all_goals as_aux_lemma=>kernel_rfl)
  (of_decide_eq_true (by as_aux_lemma=>kernel_rfl)) (by unfold Func.isWrapper;first | (rw [if_pos (by decide +kernel)];kernel_rfl) | (rw [if_neg (by decide +kernel)];exact ⟨rfl,rfl⟩))
  (fun os started H enc _=>saveBack_lifted os started H enc)

theorem saveBack_proved:Rows.SaveBackSaid:=saveBack_over

end Go.Proofs.YtfpjogpjocedaaaGreat
