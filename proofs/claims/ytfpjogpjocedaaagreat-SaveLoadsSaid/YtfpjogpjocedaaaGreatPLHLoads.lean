/-
  Proved: the statement SaveLoads, for every input.
-/
import Derived.Test.YtfpjogpjocedaaaGreatPDocO
import Derived.Test.YtfpjogpjocedaaaGreatPSwapI
namespace Go.Proofs.YtfpjogpjocedaaaGreat
set_option linter.unusedSimpArgs false
set_option linter.unusedVariables false
set_option maxHeartbeats 600000
open Go.ChangeShapes Go.WideShapes Go.ChangeAt Go.RowKit

set_option maxRecDepth 100000 in
theorem saveLoads_out (n:Int) (a1:Option Addr) (l1 cap1:Nat) (a2:Option Addr) (l2 cap2:Nat) (a3:Option Addr) (l3 cap3:Nat) (w:World) (h:40 < l1 ∨ n < 0 ∨ 16 < n ∨ 20 < l2 ∨ 400 < l3) :
  Calls Tryz.prog 3 #[.int .i64 n,.slice a1 l1 cap1,.slice a2 l2 cap2,.slice a3 l3 cap3] w fun e w'=>e=.returned (.bool true) ∧ Keeps w w':=by
 go_enter Tryz.func3,Tryz.ntmps3
 go_wp2_with fail
 refine (l28_alive _).mono ?_
 rintro e w1 ⟨rfl,hk1⟩
 have HK:=Lib.hid hk1
 clear hk1
 by_cases h1:40 < l1
 ·have g1:(40:Int) < (l1:Int):=by omega
  go_wp2_with fail
  all_goals first | (exfalso;omega) | (go_ret;exact ⟨rfl,by have hkw:=HK.out;(exact kp)⟩)
 ·have g1:¬ (40:Int) < (l1:Int):=by omega
  by_cases h2:n < 0
  ·go_wp2_with fail
   all_goals first | (exfalso;omega) | (go_ret;exact ⟨rfl,by have hkw:=HK.out;(exact kp)⟩)
  ·by_cases h3:16 < n
   ·go_wp2_with fail
    all_goals first | (exfalso;omega) | (go_ret;exact ⟨rfl,by have hkw:=HK.out;(exact kp)⟩)
   ·by_cases h4:20 < l2
    ·have g4:(20:Int) < (l2:Int):=by omega
     go_wp2_with fail
     all_goals first | (exfalso;omega) | (go_ret;exact ⟨rfl,by have hkw:=HK.out;(exact kp)⟩)
    ·have g4:¬ (20:Int) < (l2:Int):=by omega
     have g5:(400:Int) < (l3:Int):=by omega
     go_wp2_with fail
     all_goals first | (exfalso;omega) | (go_ret;exact ⟨rfl,by have hkw:=HK.out;(exact kp)⟩)

set_option maxRecDepth 100000 in
set_option maxHeartbeats 4000000 in
theorem saveLoads_in (n:Int) (a1:Option Addr) (l1 cap1:Nat) (rs:List Rec) (a2:Option Addr) (cap2:Nat) (ps:List Int) (a3:Option Addr) (cap3:Nat) (bs:List Int) (w:World) (h1:l1 ≤ 40) (h0:0 ≤ n) (h16:n ≤ 16) (hp20:ps.length ≤ 20) (hb400:bs.length ≤ 400) (hrs:IsRecs w a1 l1 rs) (hI:IntsAt w a2 ps) (hba:BsAt w a3 bs) (hib:IsBs bs) (hcap:bs.length ≤ cap3) :
  Calls Tryz.prog 3 #[.int .i64 n,.slice a1 l1 cap1,.slice a2 ps.length cap2,.slice a3 bs.length cap3] w fun e w'=>e=.returned (.bool true) ∧ Keeps w w':=by
 have HRS:=Lib.hid (fun (W:World) (hW:Keeps w W)=>built2 n 1000 a1 l1 cap1 rs W h0 h16 (by decide) (by decide) (by omega) ⟨hrs.1,fun i r hr=>by obtain ⟨q1,b,off,q2,q3⟩:=hrs.2 i r hr;exact ⟨q1,b,off,q2,fun j hj=>by
  have hc:=q3 j hj
  have hj7:j < (recVals r).length:=hj
  rw [List.getElem?_eq_getElem hj7] at hc ⊢
  exact hW.cell hc⟩⟩)
 have HOF:=Lib.hid (fun (W:World) (hW:Keeps w W)=>orderOf_calls a2 cap2 ps W (fun i x hx=>by obtain ⟨b,off,q1,q2⟩:=hI i x hx;exact ⟨b,off,q1,hW.cell q2⟩) (by omega))
 have HRP:=Lib.hid (fun (W:World) (hW:Keeps w W)=>refRight_any a2 cap2 ps W (fun i x hx=>by obtain ⟨b,off,q1,q2⟩:=hI i x hx;exact ⟨b,off,q1,hW.cell q2⟩) (by omega))
 have HPK:=Lib.hid (fun (W:World) (hW:Keeps w W)=>peek_calls a3 cap3 bs W (hba.keeps hW) hib (by omega) hcap)
 have HDO:=Lib.hid (fun (W:World) (hW:Keeps w W)=>docOf_calls a3 cap3 bs W (hba.keeps hW) hib (by omega))
 have HI:=Lib.hid hI
 have HBA:=Lib.hid hba
 have HIB:=Lib.hid hib
 have HCAP:=Lib.hid hcap
 obtain ⟨N,hN⟩:∃ N,N=ps.length:=⟨_,rfl⟩
 have HN:=Lib.hid hN
 obtain ⟨K,hK⟩:∃ K,K=bs.length:=⟨_,rfl⟩
 have HK:=Lib.hid hK
 rw [← hN] at HOF HRP hp20 ⊢
 rw [← hK] at HPK HDO hb400 ⊢
 clear hrs hI hN hba hib hK hcap
 have g1:¬ (40:Int) < (l1:Int):=by omega
 have g2:¬ n < 0:=by omega
 have g3:¬ (16:Int) < n:=by omega
 have g4:¬ (20:Int) < (N:Int):=by omega
 have g5:¬ (400:Int) < (K:Int):=by omega
 go_enter Tryz.func3,Tryz.ntmps3
 go_wp2_with fail
 refine (l28_alive _).mono ?_
 rintro e w1 ⟨rfl,hk1⟩
 have HK1:=Lib.hid hk1
 clear hk1
 go_wp2_with fail
 refine (HRS.out _ HK1.out).mono ?_
 rintro e w2 ⟨sb,mb,M,L,rfl,hB,hMn,hMr,hMl,hMp⟩
 have HB:=Lib.hid hB
 have HMP:=Lib.hid hMp
 have HK2:=Lib.hid (HK1.out.trans hB.keep)
 have HMF:Hid (M.n=n ∧ M.room=1000 ∧ M.len ≤ (l1:Int)):=Lib.hid ⟨hMn,hMr,hMl⟩
 clear hB hMp hMn hMr hMl HRS
 go_wp2_with fail
 refine (HOF.out _ HK2.out).mono ?_
 rintro e w3 ⟨hk3,ho⟩
 have HB3:=Lib.hid (HB.out.keeps hk3)
 have HK3:=Lib.hid (HK2.out.trans hk3)
 clear hk3 HOF
 have HSB:=Lib.hid (fun (W:World) (hW:Keeps w3 W)=>same_both (HB3.out.keeps hW))
 cases hp:permB ps with
 | false=>
  rw [hp,if_neg (by simp)] at ho
  subst ho
  rw [hp] at HRP
  have HLD:=Lib.hid (fun (W:World)=>loadNone_calls (sp:=some ⟨sb,0,none⟩) (op:=none) (.inr rfl) (.slice a3 K cap3) W)
  clear hp
  go_wp2_with fail
  refine (HLD.out _).mono ?_
  rintro e w4 ⟨rfl,hk4⟩
  have HK4:=Lib.hid (HK3.out.trans hk4)
  have HK34:=Lib.hid hk4
  clear hk4
  go_wp2_with fail
  refine (HPK.out _ (by have hkw:=HK4.out;(exact kp))).mono ?_
  rintro e w5 ⟨hk5,hpk⟩
  have e0:w5.cell? ⟨w4.heap.size,0,none⟩=some (.int .u8 0):=hk5.cell (by simp)
  have e1:w5.cell? ⟨w4.heap.size,1,none⟩=some (.int .u32 0):=hk5.cell (by simp)
  have HK45:Hid (Keeps w4 w5):=Lib.hid (by (exact kp))
  have X5:=hk5.size
  simp only [World.size_alloc] at X5
  have X5l:w4.heap.size < w5.heap.size:=by omega
  have X5n:w4.heap.size ≠ w5.heap.size:=by omega
  clear hk5
  rcases hpk with ⟨T,M1,ids,pa,pcap,hg,rfl,hpi⟩ | ⟨hno,rfl⟩
  ·have HG:=Lib.hid hg
   have HPI:=Lib.hid hpi
   obtain ⟨V,hV⟩:∃ V,V=T.vars:=⟨_,rfl⟩
   obtain ⟨FF,hFF⟩:∃ FF,FF=T.form:=⟨_,rfl⟩
   obtain ⟨LL,hLL⟩:∃ LL,LL=T.l.length:=⟨_,rfl⟩
   obtain ⟨PL,hPL⟩:∃ PL,PL=T.perm.length:=⟨_,rfl⟩
   rw [← hV,← hFF,← hLL,← hPL]
   have HV:=Lib.hid hV
   have HFF:=Lib.hid hFF
   have HLL:=Lib.hid hLL
   have HPL:=Lib.hid hPL
   clear hg hpi hV hFF hLL hPL
   go_wp2_with fail
   refine (HDO.out _ (by have hkw:=HK4.out.trans HK45.out;(exact kp))).mono ?_
   rintro e w6 ⟨hk6,hof⟩
   have X6:=hk6.size
   simp only [World.size_alloc] at X6
   have X6l:w5.heap.size < w6.heap.size:=by omega
   have X6n:w5.heap.size ≠ w6.heap.size:=by omega
   have X46l:w4.heap.size < w6.heap.size:=by omega
   have X46n:w4.heap.size ≠ w6.heap.size:=by omega
   replace e0:=hk6.cell (a:=⟨w4.heap.size,0,none⟩) (v:=.int .u8 0) (by simp [go_sem,X5l,X5n,e0])
   replace e1:=hk6.cell (a:=⟨w4.heap.size,1,none⟩) (v:=.int .u32 0) (by simp [go_sem,X5l,X5n,e1])
   have h0:w6.cell? ⟨w5.heap.size,0,none⟩=some (.int .i64 (V:Int)):=hk6.cell (by simp)
   have h1:w6.cell? ⟨w5.heap.size,1,none⟩=some (.int .u8 (FF:Int)):=hk6.cell (by simp)
   have h2:w6.cell? ⟨w5.heap.size,2,none⟩=some (.slice pa PL pcap):=hk6.cell (by simp)
   have h3:w6.cell? ⟨w5.heap.size,3,none⟩=some (.int .i64 (LL:Int)):=hk6.cell (by simp)
   have HK56:Hid (Keeps w5 w6):=Lib.hid (by (exact kp))
   have HK46:Hid (Keeps w4 w6):=Lib.hid (HK45.out.trans HK56.out)
   clear hk6
   rcases hof with ⟨T2,M2,ids2,mb2,L2,G2,pa2,pcap2,x2,d1,d2,d3,d4,rfl,d6,d7,d8,d9⟩ | ⟨hno2,rfl⟩
   case inr=>exact absurd (HG.out.good.doc (by rw [← HK.out];omega)) (hno2 _ _ _)
   obtain ⟨rfl,hvn,hll⟩:=HG.out.doc (by rw [← HK.out];omega) d1
   have hL2:(L2.length:Int)=(LL:Int):=by rw [d8.len,hll,HLL.out]
   have hLn:L2.length=LL:=by omega
   obtain ⟨a8,cap8,c80,-⟩:=d8.cell
   rw [hLn] at c80
   have c83:w6.cell? ⟨mb2,3,none⟩=some (.int .i64 (V:Int)):=by
    obtain ⟨⟨lv,gv,q1,-⟩,-⟩:=d8
    rw [cell_of_row w6 mb2 3 _ _ _ q1]
    show some (Value.int .i64 M2.n)=_
    rw [hvn,HV.out]
   have HPI6:=Lib.hid (HPI.out.keeps HK56.out)
   have HQI6:=Lib.hid d7
   have ml:mb2 < w6.heap.size:=lt_of_cell c80
   rw [← HFF.out,← HPL.out]
   clear d1 d2 d3 d4 d6 d7 d8 d9 hvn hll hL2 hLn
   go_wp2_with fail
   obtain ⟨W7,hW7⟩:∃ W,W=w6.alloc (.cells #[.pointer (some ⟨mb2,0,none⟩),.slice pa2 PL pcap2,.int .u8 (FF:Int),.int .u8 x2.tag,.int .u32 x2.to] 45):=⟨_,rfl⟩
   have hk7:Keeps w6 W7:=by rw [hW7];exact (Keeps.refl w6).alloc _
   have r0:W7.cell? ⟨w6.heap.size,0,none⟩=some (.pointer (some ⟨mb2,0,none⟩)):=by rw [hW7];simp
   have r1:W7.cell? ⟨w6.heap.size,1,none⟩=some (.slice pa2 PL pcap2):=by rw [hW7];simp
   have r2:W7.cell? ⟨w6.heap.size,2,none⟩=some (.int .u8 (FF:Int)):=by rw [hW7];simp
   replace e0:=hk7.cell e0
   replace e1:=hk7.cell e1
   replace h0:=hk7.cell h0
   replace h1:=hk7.cell h1
   replace h2:=hk7.cell h2
   replace h3:=hk7.cell h3
   replace c80:=hk7.cell c80
   replace c83:=hk7.cell c83
   have HK47:=Lib.hid (HK46.out.trans hk7)
   have hsq:∀ W,Keeps W7 W → Calls Tryz.prog 13 #[.slice pa PL pcap,.slice pa2 PL pcap2] W fun e w'=>e=.returned (.bool true) ∧ Keeps W w':=fun W hW=>by
    have:=refSame_calls pa pa2 pcap pcap2 T2.perm T2.perm W ((HPI6.out.keeps hk7).keeps hW) ((HQI6.out.keeps hk7).keeps hW) (by have q1:=(readB_ok HG.out.good.read).perm.1;have q2:=(readB_ok HG.out.good.read).vars;omega) (by have q1:=(readB_ok HG.out.good.read).perm.1;have q2:=(readB_ok HG.out.good.read).vars;omega)
    rw [← HPL.out,decide_eq_true rfl] at this
    exact this
   have HSQ:=Lib.hid hsq
   have HQI7:=Lib.hid (HQI6.out.keeps hk7)
   rw [← hW7]
   clear hW7 hk7 hsq
   have h0k:=KWorld.cell h0
   have h1k:=KWorld.cell h1
   have h2k:=KWorld.cell h2
   have h3k:=KWorld.cell h3
   have r0k:=KWorld.cell r0
   have r1k:=KWorld.cell r1
   have r2k:=KWorld.cell r2
   have c80k:=KWorld.cell c80
   have c83k:=KWorld.cell c83
   refine wp_region_keeps (W7) (by kernel_rfl) (by kernel_rfl) (by (exact kp)) ?_;(repeat (go_big_quiet_step ((first | (go_at_call 13;with_reducible refine Calls.keepsK (HSQ.out _ (KWorld.keep _)))))));refine wpQuiet_nil ?_;rintro wq ⟨⟨_,hkq⟩,rfl⟩;try dsimp only
   replace e0:=hkq.cell e0
   replace e1:=hkq.cell e1
   replace r0:=hkq.cell r0
   replace r1:=hkq.cell r1
   replace r2:=hkq.cell r2
   have HKQ:=Lib.hid (HK47.out.trans hkq)
   have HQQ:=Lib.hid (HQI7.out.keeps hkq)
   clear hkq h0k h1k h2k h3k r0k r1k r2k c80k c83k h0 h1 h2 h3 c80 c83
   go_wp2_with (first
    | (go_at_call 14;refine (HRP.out _ (HK4.out.trans HKQ.out)).mono ?_;rintro e w7 ⟨rfl,rfl⟩)
    | (go_at_call 15;refine (HSB.out _ (HK34.out.trans (HKQ.out.trans (by (exact kp))))).mono ?_;rintro e w8 ⟨rfl,hk8⟩)
    | fail)
   go_ret
   exact ⟨rfl,by have hkw:=HK4.out.trans HKQ.out;(exact kp)⟩
  ·have HNO:=Lib.hid hno
   go_wp2_with fail
   refine (HDO.out _ (by have hkw:=HK4.out.trans HK45.out;(exact kp))).mono ?_
   rintro e w6 ⟨hk6,hof⟩
   have X6:=hk6.size
   simp only [World.size_alloc] at X6
   have X6l:w5.heap.size < w6.heap.size:=by omega
   have X6n:w5.heap.size ≠ w6.heap.size:=by omega
   have X46l:w4.heap.size < w6.heap.size:=by omega
   have X46n:w4.heap.size ≠ w6.heap.size:=by omega
   replace e0:=hk6.cell (a:=⟨w4.heap.size,0,none⟩) (v:=.int .u8 0) (by simp [go_sem,X5l,X5n,e0])
   replace e1:=hk6.cell (a:=⟨w4.heap.size,1,none⟩) (v:=.int .u32 0) (by simp [go_sem,X5l,X5n,e1])
   have h0:w6.cell? ⟨w5.heap.size,0,none⟩=some (.int .i64 0):=hk6.cell (by simp)
   have h1:w6.cell? ⟨w5.heap.size,1,none⟩=some (.int .u8 0):=hk6.cell (by simp)
   have h2:w6.cell? ⟨w5.heap.size,2,none⟩=some (.slice none 0 0):=hk6.cell (by simp)
   have h3:w6.cell? ⟨w5.heap.size,3,none⟩=some (.int .i64 0):=hk6.cell (by simp)
   have HK46:Hid (Keeps w4 w6):=Lib.hid (HK45.out.trans (by (exact kp)))
   clear hk6
   rcases hof with ⟨T,M1,ids,mb2,L2,G2,pa,pcap,x2,q1,q2⟩ | ⟨hno2,rfl⟩
   ·exact absurd (q1.text (by rw [← HK.out];omega)) (HNO.out _ _ _)
   clear hno2
   go_wp2_with (first
    | (go_at_call 14;refine (HRP.out _ (by have hkw:=HK4.out.trans HK46.out;(exact kp))).mono ?_;rintro e w7 ⟨rfl,rfl⟩)
    | (go_at_call 15;refine (HSB.out _ (HK34.out.trans (HK46.out.trans (by (exact kp))))).mono ?_;rintro e w8 ⟨rfl,hk8⟩)
    | fail)
   go_ret
   exact ⟨rfl,by have hkw:=HK4.out.trans HK46.out;(exact kp)⟩
 | true=>
  rw [hp,if_pos rfl] at ho
  rw [hp] at HRP
  obtain ⟨ob,Fo,rfl,hO,-⟩:=ho
  obtain ⟨⟨F,G,hS,hR,hFG,hFw,hGw⟩,-⟩:=HB3.out
  have hld:=load_calls hS hO a3 cap3 bs (HBA.out.keeps HK3.out) HIB.out (by rw [← HK.out];omega) HCAP.out
  rw [← HK.out] at hld
  have HLD:=Lib.hid hld
  have HS:=Lib.hid hS
  have HR:=Lib.hid hR
  have HFG:=Lib.hid hFG
  have HFW:=Lib.hid hFw
  clear hld hS hR hFG hFw hGw hO hp
  go_wp2_with fail
  refine HLD.out.mono ?_
  rintro e w4 hld
  rcases hld with ⟨hne,rfl,hk4⟩ | ⟨hn,hno0,rfl,hk4⟩ | ⟨hn,T0,M0,ids0,hg0,hh⟩
  ·have gN:((N:Int) != n)=true:=by simp;intro h;exact hne (by rw [HMF.out.1,← h,HN.out])
   clear hne
   have HK4:=Lib.hid (HK3.out.trans hk4)
   have HK34:=Lib.hid hk4
   clear hk4
   go_wp2_with fail
   refine (HPK.out _ (by have hkw:=HK4.out;(exact kp))).mono ?_
   rintro e w5 ⟨hk5,hpk⟩
   have e0:w5.cell? ⟨w4.heap.size,0,none⟩=some (.int .u8 0):=hk5.cell (by simp)
   have e1:w5.cell? ⟨w4.heap.size,1,none⟩=some (.int .u32 0):=hk5.cell (by simp)
   have HK45:Hid (Keeps w4 w5):=Lib.hid (by (exact kp))
   have X5:=hk5.size
   simp only [World.size_alloc] at X5
   have X5l:w4.heap.size < w5.heap.size:=by omega
   have X5n:w4.heap.size ≠ w5.heap.size:=by omega
   clear hk5
   rcases hpk with ⟨T,M1,ids,pa,pcap,hg,rfl,hpi⟩ | ⟨hno,rfl⟩
   ·have HG:=Lib.hid hg
    have HPI:=Lib.hid hpi
    obtain ⟨V,hV⟩:∃ V,V=T.vars:=⟨_,rfl⟩
    obtain ⟨FF,hFF⟩:∃ FF,FF=T.form:=⟨_,rfl⟩
    obtain ⟨LL,hLL⟩:∃ LL,LL=T.l.length:=⟨_,rfl⟩
    obtain ⟨PL,hPL⟩:∃ PL,PL=T.perm.length:=⟨_,rfl⟩
    rw [← hV,← hFF,← hLL,← hPL]
    have HV:=Lib.hid hV
    have HFF:=Lib.hid hFF
    have HLL:=Lib.hid hLL
    have HPL:=Lib.hid hPL
    clear hg hpi hV hFF hLL hPL
    go_wp2_with fail
    refine (HDO.out _ (by have hkw:=HK4.out.trans HK45.out;(exact kp))).mono ?_
    rintro e w6 ⟨hk6,hof⟩
    have X6:=hk6.size
    simp only [World.size_alloc] at X6
    have X6l:w5.heap.size < w6.heap.size:=by omega
    have X6n:w5.heap.size ≠ w6.heap.size:=by omega
    have X46l:w4.heap.size < w6.heap.size:=by omega
    have X46n:w4.heap.size ≠ w6.heap.size:=by omega
    replace e0:=hk6.cell (a:=⟨w4.heap.size,0,none⟩) (v:=.int .u8 0) (by simp [go_sem,X5l,X5n,e0])
    replace e1:=hk6.cell (a:=⟨w4.heap.size,1,none⟩) (v:=.int .u32 0) (by simp [go_sem,X5l,X5n,e1])
    have h0:w6.cell? ⟨w5.heap.size,0,none⟩=some (.int .i64 (V:Int)):=hk6.cell (by simp)
    have h1:w6.cell? ⟨w5.heap.size,1,none⟩=some (.int .u8 (FF:Int)):=hk6.cell (by simp)
    have h2:w6.cell? ⟨w5.heap.size,2,none⟩=some (.slice pa PL pcap):=hk6.cell (by simp)
    have h3:w6.cell? ⟨w5.heap.size,3,none⟩=some (.int .i64 (LL:Int)):=hk6.cell (by simp)
    have HK56:Hid (Keeps w5 w6):=Lib.hid (by (exact kp))
    have HK46:Hid (Keeps w4 w6):=Lib.hid (HK45.out.trans HK56.out)
    clear hk6
    rcases hof with ⟨T2,M2,ids2,mb2,L2,G2,pa2,pcap2,x2,d1,d2,d3,d4,rfl,d6,d7,d8,d9⟩ | ⟨hno2,rfl⟩
    case inr=>exact absurd (HG.out.good.doc (by rw [← HK.out];omega)) (hno2 _ _ _)
    obtain ⟨rfl,hvn,hll⟩:=HG.out.doc (by rw [← HK.out];omega) d1
    have hL2:(L2.length:Int)=(LL:Int):=by rw [d8.len,hll,HLL.out]
    have hLn:L2.length=LL:=by omega
    obtain ⟨a8,cap8,c80,-⟩:=d8.cell
    rw [hLn] at c80
    have c83:w6.cell? ⟨mb2,3,none⟩=some (.int .i64 (V:Int)):=by
     obtain ⟨⟨lv,gv,q1,-⟩,-⟩:=d8
     rw [cell_of_row w6 mb2 3 _ _ _ q1]
     show some (Value.int .i64 M2.n)=_
     rw [hvn,HV.out]
    have HPI6:=Lib.hid (HPI.out.keeps HK56.out)
    have HQI6:=Lib.hid d7
    have ml:mb2 < w6.heap.size:=lt_of_cell c80
    rw [← HFF.out,← HPL.out]
    clear d1 d2 d3 d4 d6 d7 d8 d9 hvn hll hL2 hLn
    go_wp2_with fail
    obtain ⟨W7,hW7⟩:∃ W,W=w6.alloc (.cells #[.pointer (some ⟨mb2,0,none⟩),.slice pa2 PL pcap2,.int .u8 (FF:Int),.int .u8 x2.tag,.int .u32 x2.to] 45):=⟨_,rfl⟩
    have hk7:Keeps w6 W7:=by rw [hW7];exact (Keeps.refl w6).alloc _
    have r0:W7.cell? ⟨w6.heap.size,0,none⟩=some (.pointer (some ⟨mb2,0,none⟩)):=by rw [hW7];simp
    have r1:W7.cell? ⟨w6.heap.size,1,none⟩=some (.slice pa2 PL pcap2):=by rw [hW7];simp
    have r2:W7.cell? ⟨w6.heap.size,2,none⟩=some (.int .u8 (FF:Int)):=by rw [hW7];simp
    replace e0:=hk7.cell e0
    replace e1:=hk7.cell e1
    replace h0:=hk7.cell h0
    replace h1:=hk7.cell h1
    replace h2:=hk7.cell h2
    replace h3:=hk7.cell h3
    replace c80:=hk7.cell c80
    replace c83:=hk7.cell c83
    have HK47:=Lib.hid (HK46.out.trans hk7)
    have hsq:∀ W,Keeps W7 W → Calls Tryz.prog 13 #[.slice pa PL pcap,.slice pa2 PL pcap2] W fun e w'=>e=.returned (.bool true) ∧ Keeps W w':=fun W hW=>by
     have:=refSame_calls pa pa2 pcap pcap2 T2.perm T2.perm W ((HPI6.out.keeps hk7).keeps hW) ((HQI6.out.keeps hk7).keeps hW) (by have q1:=(readB_ok HG.out.good.read).perm.1;have q2:=(readB_ok HG.out.good.read).vars;omega) (by have q1:=(readB_ok HG.out.good.read).perm.1;have q2:=(readB_ok HG.out.good.read).vars;omega)
     rw [← HPL.out,decide_eq_true rfl] at this
     exact this
    have HSQ:=Lib.hid hsq
    have HQI7:=Lib.hid (HQI6.out.keeps hk7)
    rw [← hW7]
    clear hW7 hk7 hsq
    have h0k:=KWorld.cell h0
    have h1k:=KWorld.cell h1
    have h2k:=KWorld.cell h2
    have h3k:=KWorld.cell h3
    have r0k:=KWorld.cell r0
    have r1k:=KWorld.cell r1
    have r2k:=KWorld.cell r2
    have c80k:=KWorld.cell c80
    have c83k:=KWorld.cell c83
    refine wp_region_keeps (W7) (by kernel_rfl) (by kernel_rfl) (by (exact kp)) ?_;(repeat (go_big_quiet_step ((first | (go_at_call 13;with_reducible refine Calls.keepsK (HSQ.out _ (KWorld.keep _)))))));refine wpQuiet_nil ?_;rintro wq ⟨⟨_,hkq⟩,rfl⟩;try dsimp only
    replace e0:=hkq.cell e0
    replace e1:=hkq.cell e1
    replace r0:=hkq.cell r0
    replace r1:=hkq.cell r1
    replace r2:=hkq.cell r2
    have HKQ:=Lib.hid (HK47.out.trans hkq)
    have HQQ:=Lib.hid (HQI7.out.keeps hkq)
    clear hkq h0k h1k h2k h3k r0k r1k r2k c80k c83k h0 h1 h2 h3 c80 c83
    go_wp2_with (first
     | (go_at_call 14;refine (HRP.out _ (HK4.out.trans HKQ.out)).mono ?_;rintro e w7 ⟨rfl,rfl⟩)
     | (go_at_call 15;refine (HSB.out _ (HK34.out.trans (HKQ.out.trans (by (exact kp))))).mono ?_;rintro e w8 ⟨rfl,hk8⟩)
     | fail)
    go_ret
    exact ⟨rfl,by have hkw:=HK4.out.trans HKQ.out;(exact kp)⟩
   ·have HNO:=Lib.hid hno
    go_wp2_with fail
    refine (HDO.out _ (by have hkw:=HK4.out.trans HK45.out;(exact kp))).mono ?_
    rintro e w6 ⟨hk6,hof⟩
    have X6:=hk6.size
    simp only [World.size_alloc] at X6
    have X6l:w5.heap.size < w6.heap.size:=by omega
    have X6n:w5.heap.size ≠ w6.heap.size:=by omega
    have X46l:w4.heap.size < w6.heap.size:=by omega
    have X46n:w4.heap.size ≠ w6.heap.size:=by omega
    replace e0:=hk6.cell (a:=⟨w4.heap.size,0,none⟩) (v:=.int .u8 0) (by simp [go_sem,X5l,X5n,e0])
    replace e1:=hk6.cell (a:=⟨w4.heap.size,1,none⟩) (v:=.int .u32 0) (by simp [go_sem,X5l,X5n,e1])
    have h0:w6.cell? ⟨w5.heap.size,0,none⟩=some (.int .i64 0):=hk6.cell (by simp)
    have h1:w6.cell? ⟨w5.heap.size,1,none⟩=some (.int .u8 0):=hk6.cell (by simp)
    have h2:w6.cell? ⟨w5.heap.size,2,none⟩=some (.slice none 0 0):=hk6.cell (by simp)
    have h3:w6.cell? ⟨w5.heap.size,3,none⟩=some (.int .i64 0):=hk6.cell (by simp)
    have HK46:Hid (Keeps w4 w6):=Lib.hid (HK45.out.trans (by (exact kp)))
    clear hk6
    rcases hof with ⟨T,M1,ids,mb2,L2,G2,pa,pcap,x2,q1,q2⟩ | ⟨hno2,rfl⟩
    ·exact absurd (q1.text (by rw [← HK.out];omega)) (HNO.out _ _ _)
    clear hno2
    go_wp2_with (first
     | (go_at_call 14;refine (HRP.out _ (by have hkw:=HK4.out.trans HK46.out;(exact kp))).mono ?_;rintro e w7 ⟨rfl,rfl⟩)
     | (go_at_call 15;refine (HSB.out _ (HK34.out.trans (HK46.out.trans (by (exact kp))))).mono ?_;rintro e w8 ⟨rfl,hk8⟩)
     | fail)
    go_ret
    exact ⟨rfl,by have hkw:=HK4.out.trans HK46.out;(exact kp)⟩
  ·have gN:((N:Int) != n)=false:=by simp;rw [HN.out,← hn,HMF.out.1]
   have HNO0:=Lib.hid hno0
   clear hn hno0
   have HK4:=Lib.hid (HK3.out.trans hk4)
   have HK34:=Lib.hid hk4
   clear hk4
   go_wp2_with fail
   refine (HPK.out _ (by have hkw:=HK4.out;(exact kp))).mono ?_
   rintro e w5 ⟨hk5,hpk⟩
   have e0:w5.cell? ⟨w4.heap.size,0,none⟩=some (.int .u8 0):=hk5.cell (by simp)
   have e1:w5.cell? ⟨w4.heap.size,1,none⟩=some (.int .u32 0):=hk5.cell (by simp)
   have HK45:Hid (Keeps w4 w5):=Lib.hid (by (exact kp))
   have X5:=hk5.size
   simp only [World.size_alloc] at X5
   have X5l:w4.heap.size < w5.heap.size:=by omega
   have X5n:w4.heap.size ≠ w5.heap.size:=by omega
   clear hk5
   rcases hpk with ⟨T,M1,ids,pa,pcap,q1,q2,q3⟩ | ⟨hno,rfl⟩
   ·exact absurd q1.good (HNO0.out _ _ _)
   clear hno
   go_wp2_with fail
   refine (HDO.out _ (by have hkw:=HK4.out.trans HK45.out;(exact kp))).mono ?_
   rintro e w6 ⟨hk6,hof⟩
   have X6:=hk6.size
   simp only [World.size_alloc] at X6
   have X6l:w5.heap.size < w6.heap.size:=by omega
   have X6n:w5.heap.size ≠ w6.heap.size:=by omega
   have X46l:w4.heap.size < w6.heap.size:=by omega
   have X46n:w4.heap.size ≠ w6.heap.size:=by omega
   replace e0:=hk6.cell (a:=⟨w4.heap.size,0,none⟩) (v:=.int .u8 0) (by simp [go_sem,X5l,X5n,e0])
   replace e1:=hk6.cell (a:=⟨w4.heap.size,1,none⟩) (v:=.int .u32 0) (by simp [go_sem,X5l,X5n,e1])
   have h0:w6.cell? ⟨w5.heap.size,0,none⟩=some (.int .i64 0):=hk6.cell (by simp)
   have h1:w6.cell? ⟨w5.heap.size,1,none⟩=some (.int .u8 0):=hk6.cell (by simp)
   have h2:w6.cell? ⟨w5.heap.size,2,none⟩=some (.slice none 0 0):=hk6.cell (by simp)
   have h3:w6.cell? ⟨w5.heap.size,3,none⟩=some (.int .i64 0):=hk6.cell (by simp)
   have HK46:Hid (Keeps w4 w6):=Lib.hid (HK45.out.trans (by (exact kp)))
   clear hk6
   rcases hof with ⟨T,M1,ids,mb2,L2,G2,pa,pcap,x2,q1,q2⟩ | ⟨hno2,rfl⟩
   ·exact absurd (q1.text (by rw [← HK.out];omega)) (HNO0.out _ _ _)
   clear hno2
   go_wp2_with (first
    | (go_at_call 14;refine (HRP.out _ (by have hkw:=HK4.out.trans HK46.out;(exact kp))).mono ?_;rintro e w7 ⟨rfl,rfl⟩)
    | (go_at_call 15;refine (HSB.out _ (HK34.out.trans (HK46.out.trans (by (exact kp))))).mono ?_;rintro e w8 ⟨rfl,hk8⟩)
    | fail)
   go_ret
   exact ⟨rfl,by have hkw:=HK4.out.trans HK46.out;(exact kp)⟩
  ·have gN:((N:Int) != n)=false:=by simp;rw [HN.out,← hn,HMF.out.1]
   have HG0:=Lib.hid hg0
   have HMN:=Lib.hid hn
   clear hn hg0
   rcases hh with ⟨hpp,rfl,hk4⟩ | ⟨hpp,er,M',ids',F',hput,hres,hu,hS',hF'⟩
   ·have HPP:=Lib.hid hpp
    clear hpp
    have HK4:=Lib.hid (HK3.out.trans hk4)
    have HK34:=Lib.hid hk4
    clear hk4
    go_wp2_with fail
    refine (HPK.out _ (by have hkw:=HK4.out;(exact kp))).mono ?_
    rintro e w5 ⟨hk5,hpk⟩
    have e0:w5.cell? ⟨w4.heap.size,0,none⟩=some (.int .u8 0):=hk5.cell (by simp)
    have e1:w5.cell? ⟨w4.heap.size,1,none⟩=some (.int .u32 0):=hk5.cell (by simp)
    have HK45:Hid (Keeps w4 w5):=Lib.hid (by (exact kp))
    have X5:=hk5.size
    simp only [World.size_alloc] at X5
    have X5l:w4.heap.size < w5.heap.size:=by omega
    have X5n:w4.heap.size ≠ w5.heap.size:=by omega
    clear hk5
    rcases hpk with ⟨T,M1,ids,pa,pcap,hg,rfl,hpi⟩ | ⟨hno,rfl⟩
    case inr=>exact absurd HG0.out.good (hno _ _ _)
    have HG:=Lib.hid hg
    have HPI:=Lib.hid hpi
    obtain ⟨V,hV⟩:∃ V,V=T.vars:=⟨_,rfl⟩
    obtain ⟨FF,hFF⟩:∃ FF,FF=T.form:=⟨_,rfl⟩
    obtain ⟨LL,hLL⟩:∃ LL,LL=T.l.length:=⟨_,rfl⟩
    obtain ⟨PL,hPL⟩:∃ PL,PL=T.perm.length:=⟨_,rfl⟩
    rw [← hV,← hFF,← hLL,← hPL]
    have HV:=Lib.hid hV
    have HFF:=Lib.hid hFF
    have HLL:=Lib.hid hLL
    have HPL:=Lib.hid hPL
    clear hg hpi hV hFF hLL hPL
    go_wp2_with fail
    refine (HDO.out _ (by have hkw:=HK4.out.trans HK45.out;(exact kp))).mono ?_
    rintro e w6 ⟨hk6,hof⟩
    have X6:=hk6.size
    simp only [World.size_alloc] at X6
    have X6l:w5.heap.size < w6.heap.size:=by omega
    have X6n:w5.heap.size ≠ w6.heap.size:=by omega
    have X46l:w4.heap.size < w6.heap.size:=by omega
    have X46n:w4.heap.size ≠ w6.heap.size:=by omega
    replace e0:=hk6.cell (a:=⟨w4.heap.size,0,none⟩) (v:=.int .u8 0) (by simp [go_sem,X5l,X5n,e0])
    replace e1:=hk6.cell (a:=⟨w4.heap.size,1,none⟩) (v:=.int .u32 0) (by simp [go_sem,X5l,X5n,e1])
    have h0:w6.cell? ⟨w5.heap.size,0,none⟩=some (.int .i64 (V:Int)):=hk6.cell (by simp)
    have h1:w6.cell? ⟨w5.heap.size,1,none⟩=some (.int .u8 (FF:Int)):=hk6.cell (by simp)
    have h2:w6.cell? ⟨w5.heap.size,2,none⟩=some (.slice pa PL pcap):=hk6.cell (by simp)
    have h3:w6.cell? ⟨w5.heap.size,3,none⟩=some (.int .i64 (LL:Int)):=hk6.cell (by simp)
    have HK56:Hid (Keeps w5 w6):=Lib.hid (by (exact kp))
    have HK46:Hid (Keeps w4 w6):=Lib.hid (HK45.out.trans HK56.out)
    clear hk6
    rcases hof with ⟨T2,M2,ids2,mb2,L2,G2,pa2,pcap2,x2,d1,d2,d3,d4,rfl,d6,d7,d8,d9⟩ | ⟨hno2,rfl⟩
    case inr=>exact absurd (HG.out.good.doc (by rw [← HK.out];omega)) (hno2 _ _ _)
    obtain ⟨rfl,hvn,hll⟩:=HG.out.doc (by rw [← HK.out];omega) d1
    have hL2:(L2.length:Int)=(LL:Int):=by rw [d8.len,hll,HLL.out]
    have hLn:L2.length=LL:=by omega
    obtain ⟨a8,cap8,c80,-⟩:=d8.cell
    rw [hLn] at c80
    have c83:w6.cell? ⟨mb2,3,none⟩=some (.int .i64 (V:Int)):=by
     obtain ⟨⟨lv,gv,q1,-⟩,-⟩:=d8
     rw [cell_of_row w6 mb2 3 _ _ _ q1]
     show some (Value.int .i64 M2.n)=_
     rw [hvn,HV.out]
    have HPI6:=Lib.hid (HPI.out.keeps HK56.out)
    have HQI6:=Lib.hid d7
    have ml:mb2 < w6.heap.size:=lt_of_cell c80
    rw [← HFF.out,← HPL.out]
    clear d1 d2 d3 d4 d6 d7 d8 d9 hvn hll hL2 hLn
    go_wp2_with fail
    obtain ⟨W7,hW7⟩:∃ W,W=w6.alloc (.cells #[.pointer (some ⟨mb2,0,none⟩),.slice pa2 PL pcap2,.int .u8 (FF:Int),.int .u8 x2.tag,.int .u32 x2.to] 45):=⟨_,rfl⟩
    have hk7:Keeps w6 W7:=by rw [hW7];exact (Keeps.refl w6).alloc _
    have r0:W7.cell? ⟨w6.heap.size,0,none⟩=some (.pointer (some ⟨mb2,0,none⟩)):=by rw [hW7];simp
    have r1:W7.cell? ⟨w6.heap.size,1,none⟩=some (.slice pa2 PL pcap2):=by rw [hW7];simp
    have r2:W7.cell? ⟨w6.heap.size,2,none⟩=some (.int .u8 (FF:Int)):=by rw [hW7];simp
    replace e0:=hk7.cell e0
    replace e1:=hk7.cell e1
    replace h0:=hk7.cell h0
    replace h1:=hk7.cell h1
    replace h2:=hk7.cell h2
    replace h3:=hk7.cell h3
    replace c80:=hk7.cell c80
    replace c83:=hk7.cell c83
    have HK47:=Lib.hid (HK46.out.trans hk7)
    have hsq:∀ W,Keeps W7 W → Calls Tryz.prog 13 #[.slice pa PL pcap,.slice pa2 PL pcap2] W fun e w'=>e=.returned (.bool true) ∧ Keeps W w':=fun W hW=>by
     have:=refSame_calls pa pa2 pcap pcap2 T2.perm T2.perm W ((HPI6.out.keeps hk7).keeps hW) ((HQI6.out.keeps hk7).keeps hW) (by have q1:=(readB_ok HG.out.good.read).perm.1;have q2:=(readB_ok HG.out.good.read).vars;omega) (by have q1:=(readB_ok HG.out.good.read).perm.1;have q2:=(readB_ok HG.out.good.read).vars;omega)
     rw [← HPL.out,decide_eq_true rfl] at this
     exact this
    have HSQ:=Lib.hid hsq
    have HQI7:=Lib.hid (HQI6.out.keeps hk7)
    rw [← hW7]
    clear hW7 hk7 hsq
    have h0k:=KWorld.cell h0
    have h1k:=KWorld.cell h1
    have h2k:=KWorld.cell h2
    have h3k:=KWorld.cell h3
    have r0k:=KWorld.cell r0
    have r1k:=KWorld.cell r1
    have r2k:=KWorld.cell r2
    have c80k:=KWorld.cell c80
    have c83k:=KWorld.cell c83
    refine wp_region_keeps (W7) (by kernel_rfl) (by kernel_rfl) (by (exact kp)) ?_;(repeat (go_big_quiet_step ((first | (go_at_call 13;with_reducible refine Calls.keepsK (HSQ.out _ (KWorld.keep _)))))));refine wpQuiet_nil ?_;rintro wq ⟨⟨_,hkq⟩,rfl⟩;try dsimp only
    replace e0:=hkq.cell e0
    replace e1:=hkq.cell e1
    replace r0:=hkq.cell r0
    replace r1:=hkq.cell r1
    replace r2:=hkq.cell r2
    have HKQ:=Lib.hid (HK47.out.trans hkq)
    have HQQ:=Lib.hid (HQI7.out.keeps hkq)
    clear hkq h0k h1k h2k h3k r0k r1k r2k c80k c83k h0 h1 h2 h3 c80 c83
    have hTT:=HG0.out.one HG.out
    have hpp2:T0.perm=T2.perm:=by rw [hTT]
    have hsp:∀ W,Keeps wq W → Calls Tryz.prog 13 #[.slice a2 N cap2,.slice pa2 PL pcap2] W fun e w'=>e=.returned (.bool false) ∧ Keeps W w':=fun W hW=>by
     have:=refSame_calls a2 pa2 cap2 pcap2 ps T2.perm W (fun i x hx=>by obtain ⟨b,off,q1,q2⟩:=HI.out i x hx;exact ⟨b,off,q1,(HK4.out.trans (HKQ.out.trans hW)).cell q2⟩) (HQQ.out.keeps hW) (by rw [← HN.out];omega) (by have q1:=(readB_ok HG.out.good.read).perm.1;have q2:=(readB_ok HG.out.good.read).vars;omega)
     rw [← HPL.out,← HN.out,decide_eq_false (fun h=>HPP.out (by rw [hpp2,h]))] at this
     exact this
    have HSP:=Lib.hid hsp
    clear hTT hpp2 hsp
    go_wp2_with (first
     | (go_at_call 14;refine (HRP.out _ (HK4.out.trans HKQ.out)).mono ?_;rintro e w7 ⟨rfl,rfl⟩)
     | (go_at_call 13;refine (HSP.out _ (Keeps.refl _)).mono ?_;rintro e w9 ⟨rfl,hk9⟩;replace e0:=hk9.cell e0;replace e1:=hk9.cell e1;replace r2:=hk9.cell r2)
     | (go_at_call 15;refine (HSB.out _ (HK34.out.trans (HKQ.out.trans (by (exact kp))))).mono ?_;rintro e w8 ⟨rfl,hk8⟩)
     | fail)
    go_ret
    exact ⟨rfl,by have hkw:=HK4.out.trans HKQ.out;(exact kp)⟩
   ·have hwf:=HS.out.wf
    have hvv:T0.perm.length=T0.vars:=(readB_facts HG0.out.good.read).1
    have hfw:=(readB_ok HG0.out.good.read).few
    obtain ⟨d1,d2,d3,d4,d5,d6⟩:=HG0.out.done hwf (by rw [HMN.out,← hpp,hvv]) (by rw [HMF.out.2.1];have q1:=HMF.out.2.2;have q2:=HK.out;omega) hput
    subst d1
    rcases hres with ⟨_,x,hx,rfl⟩ | ⟨hq,_⟩
    case inr=>exact absurd rfl hq
    have hfs:(putL T0.l M []).2.1.solid:=putL_solid T0.l M [] HMP.out
    rw [hput] at hfs
    have hfew':=hS'.few
    have hxo:=HG0.out.edge (by rw [← HK.out];omega) hwf hput d2 hfew'
    rw [← hx] at hxo d4 d5
    have HXO:=Lib.hid hxo
    have HKR:=Lib.hid d4
    have HSV:=Lib.hid d5
    have HEX:=Lib.hid d3
    have HSO:=Lib.hid hfs
    have HFE:=Lib.hid hfew'
    have HPP:=Lib.hid hpp
    have HLE:Hid (M'.len ≤ 4900):=Lib.hid (by have q1:=HMF.out.2.2;have q2:=HK.out;omega)
    have HK4:Hid (Keeps w w4):=Lib.hid (HK3.out.new hu (fun k hk=>by have:=HFW.out k hk;have:=HK1.out.size;omega))
    have HR4:=Lib.hid (HR.out.keep hu (fun k hk hf=>HFG.out k hf hk))
    have HS4:=Lib.hid hS'
    have h5f:=(readB_ok HG0.out.good.read).form
    clear hwf hvv hfw d2 d3 d4 d5 d6 hput hx hfs hfew' hxo hu hS' hF' hpp
    go_wp2_with fail
    refine (HPK.out _ (by have hkw:=HK4.out;(exact kp))).mono ?_
    rintro e w5 ⟨hk5,hpk⟩
    have e0:w5.cell? ⟨w4.heap.size,0,none⟩=some (.int .u8 x.tag):=hk5.cell (by simp)
    have e1:w5.cell? ⟨w4.heap.size,1,none⟩=some (.int .u32 x.to):=hk5.cell (by simp)
    have HK45:Hid (Keeps w4 w5):=Lib.hid (by (exact kp))
    have X5:=hk5.size
    simp only [World.size_alloc] at X5
    have X5l:w4.heap.size < w5.heap.size:=by omega
    have X5n:w4.heap.size ≠ w5.heap.size:=by omega
    clear hk5
    rcases hpk with ⟨T,M1,ids,pa,pcap,hg,rfl,hpi⟩ | ⟨hno,rfl⟩
    case inr=>exact absurd HG0.out.good (hno _ _ _)
    have HG:=Lib.hid hg
    have HPI:=Lib.hid hpi
    obtain ⟨V,hV⟩:∃ V,V=T.vars:=⟨_,rfl⟩
    obtain ⟨FF,hFF⟩:∃ FF,FF=T.form:=⟨_,rfl⟩
    obtain ⟨LL,hLL⟩:∃ LL,LL=T.l.length:=⟨_,rfl⟩
    obtain ⟨PL,hPL⟩:∃ PL,PL=T.perm.length:=⟨_,rfl⟩
    rw [← hV,← hFF,← hLL,← hPL]
    have HV:=Lib.hid hV
    have HFF:=Lib.hid hFF
    have HLL:=Lib.hid hLL
    have HPL:=Lib.hid hPL
    clear hg hpi hV hFF hLL hPL
    go_wp2_with fail
    refine (HDO.out _ (by have hkw:=HK4.out.trans HK45.out;(exact kp))).mono ?_
    rintro e w6 ⟨hk6,hof⟩
    have X6:=hk6.size
    simp only [World.size_alloc] at X6
    have X6l:w5.heap.size < w6.heap.size:=by omega
    have X6n:w5.heap.size ≠ w6.heap.size:=by omega
    have X46l:w4.heap.size < w6.heap.size:=by omega
    have X46n:w4.heap.size ≠ w6.heap.size:=by omega
    replace e0:=hk6.cell (a:=⟨w4.heap.size,0,none⟩) (v:=.int .u8 x.tag) (by simp [go_sem,X5l,X5n,e0])
    replace e1:=hk6.cell (a:=⟨w4.heap.size,1,none⟩) (v:=.int .u32 x.to) (by simp [go_sem,X5l,X5n,e1])
    have h0:w6.cell? ⟨w5.heap.size,0,none⟩=some (.int .i64 (V:Int)):=hk6.cell (by simp)
    have h1:w6.cell? ⟨w5.heap.size,1,none⟩=some (.int .u8 (FF:Int)):=hk6.cell (by simp)
    have h2:w6.cell? ⟨w5.heap.size,2,none⟩=some (.slice pa PL pcap):=hk6.cell (by simp)
    have h3:w6.cell? ⟨w5.heap.size,3,none⟩=some (.int .i64 (LL:Int)):=hk6.cell (by simp)
    have HK56:Hid (Keeps w5 w6):=Lib.hid (by (exact kp))
    have HK46:Hid (Keeps w4 w6):=Lib.hid (HK45.out.trans HK56.out)
    clear hk6
    rcases hof with ⟨T2,M2,ids2,mb2,L2,G2,pa2,pcap2,x2,d1,d2,d3,d4,rfl,d6,d7,d8,d9⟩ | ⟨hno2,rfl⟩
    case inr=>exact absurd (HG.out.good.doc (by rw [← HK.out];omega)) (hno2 _ _ _)
    obtain ⟨rfl,hvn,hll⟩:=HG.out.doc (by rw [← HK.out];omega) d1
    have hL2:(L2.length:Int)=(LL:Int):=by rw [d8.len,hll,HLL.out]
    have hLn:L2.length=LL:=by omega
    obtain ⟨a8,cap8,c80,-⟩:=d8.cell
    rw [hLn] at c80
    have c83:w6.cell? ⟨mb2,3,none⟩=some (.int .i64 (V:Int)):=by
     obtain ⟨⟨lv,gv,q1,-⟩,-⟩:=d8
     rw [cell_of_row w6 mb2 3 _ _ _ q1]
     show some (Value.int .i64 M2.n)=_
     rw [hvn,HV.out]
    have HPI6:=Lib.hid (HPI.out.keeps HK56.out)
    have HQI6:=Lib.hid d7
    have ml:mb2 < w6.heap.size:=lt_of_cell c80
    rw [← HFF.out,← HPL.out]
    clear d1 d2 d3 d4 d6 d7 d8 d9 hvn hll hL2 hLn
    go_wp2_with fail
    obtain ⟨W7,hW7⟩:∃ W,W=w6.alloc (.cells #[.pointer (some ⟨mb2,0,none⟩),.slice pa2 PL pcap2,.int .u8 (FF:Int),.int .u8 x2.tag,.int .u32 x2.to] 45):=⟨_,rfl⟩
    have hk7:Keeps w6 W7:=by rw [hW7];exact (Keeps.refl w6).alloc _
    have r0:W7.cell? ⟨w6.heap.size,0,none⟩=some (.pointer (some ⟨mb2,0,none⟩)):=by rw [hW7];simp
    have r1:W7.cell? ⟨w6.heap.size,1,none⟩=some (.slice pa2 PL pcap2):=by rw [hW7];simp
    have r2:W7.cell? ⟨w6.heap.size,2,none⟩=some (.int .u8 (FF:Int)):=by rw [hW7];simp
    replace e0:=hk7.cell e0
    replace e1:=hk7.cell e1
    replace h0:=hk7.cell h0
    replace h1:=hk7.cell h1
    replace h2:=hk7.cell h2
    replace h3:=hk7.cell h3
    replace c80:=hk7.cell c80
    replace c83:=hk7.cell c83
    have HK47:=Lib.hid (HK46.out.trans hk7)
    have hsq:∀ W,Keeps W7 W → Calls Tryz.prog 13 #[.slice pa PL pcap,.slice pa2 PL pcap2] W fun e w'=>e=.returned (.bool true) ∧ Keeps W w':=fun W hW=>by
     have:=refSame_calls pa pa2 pcap pcap2 T2.perm T2.perm W ((HPI6.out.keeps hk7).keeps hW) ((HQI6.out.keeps hk7).keeps hW) (by have q1:=(readB_ok HG.out.good.read).perm.1;have q2:=(readB_ok HG.out.good.read).vars;omega) (by have q1:=(readB_ok HG.out.good.read).perm.1;have q2:=(readB_ok HG.out.good.read).vars;omega)
     rw [← HPL.out,decide_eq_true rfl] at this
     exact this
    have HSQ:=Lib.hid hsq
    have HQI7:=Lib.hid (HQI6.out.keeps hk7)
    rw [← hW7]
    clear hW7 hk7 hsq
    have h0k:=KWorld.cell h0
    have h1k:=KWorld.cell h1
    have h2k:=KWorld.cell h2
    have h3k:=KWorld.cell h3
    have r0k:=KWorld.cell r0
    have r1k:=KWorld.cell r1
    have r2k:=KWorld.cell r2
    have c80k:=KWorld.cell c80
    have c83k:=KWorld.cell c83
    refine wp_region_keeps (W7) (by kernel_rfl) (by kernel_rfl) (by (exact kp)) ?_;(repeat (go_big_quiet_step ((first | (go_at_call 13;with_reducible refine Calls.keepsK (HSQ.out _ (KWorld.keep _)))))));refine wpQuiet_nil ?_;rintro wq ⟨⟨_,hkq⟩,rfl⟩;try dsimp only
    replace e0:=hkq.cell e0
    replace e1:=hkq.cell e1
    replace r0:=hkq.cell r0
    replace r1:=hkq.cell r1
    replace r2:=hkq.cell r2
    have HKQ:=Lib.hid (HK47.out.trans hkq)
    have HQQ:=Lib.hid (HQI7.out.keeps hkq)
    clear hkq h0k h1k h2k h3k r0k r1k r2k c80k c83k h0 h1 h2 h3 c80 c83
    have hTT:=HG0.out.one HG.out
    have hpp2:ps=T2.perm:=by rw [← HPP.out,hTT]
    have hsp:∀ W,Keeps wq W → Calls Tryz.prog 13 #[.slice a2 N cap2,.slice pa2 PL pcap2] W fun e w'=>e=.returned (.bool true) ∧ Keeps W w':=fun W hW=>by
     have:=refSame_calls a2 pa2 cap2 pcap2 ps T2.perm W (fun i x hx=>by obtain ⟨b,off,q1,q2⟩:=HI.out i x hx;exact ⟨b,off,q1,(HK4.out.trans (HKQ.out.trans hW)).cell q2⟩) (HQQ.out.keeps hW) (by rw [← HN.out];omega) (by have q1:=(readB_ok HG.out.good.read).perm.1;have q2:=(readB_ok HG.out.good.read).vars;omega)
     rw [← HPL.out,← HN.out,decide_eq_true hpp2] at this
     exact this
    have HSP:=Lib.hid hsp
    have gff:((T0.form:Int) != (FF:Int))=false:=by simp;rw [HFF.out,hTT]
    clear hTT hpp2 hsp
    go_wp2_with (first
     | (go_at_call 14;refine (HRP.out _ (HK4.out.trans HKQ.out)).mono ?_;rintro e w7 ⟨rfl,rfl⟩)
     | (go_at_call 13;refine (HSP.out _ (Keeps.refl _)).mono ?_;rintro e w9 ⟨rfl,hk9⟩;replace e0:=hk9.cell e0;replace e1:=hk9.cell e1;replace r2:=hk9.cell r2)
     | fail)
    have HKQ9:=Lib.hid (HKQ.out.trans hk9)
    refine (copy_calls (HS4.out.keeps HKQ9.out) HSO.out HLE.out).mono ?_
    rintro e w10 ⟨Lc,Gc,rfl,hk10,hRc,-⟩
    replace e0:=hk10.cell e0
    replace e1:=hk10.cell e1
    have HKT:=Lib.hid (HKQ9.out.trans hk10)
    have HRc:=Lib.hid hRc
    have hri:∀ W,Keeps w10 W → Calls Tryz.prog 17 #[.pointer (some ⟨w9.heap.size,0,none⟩),.int .u8 (T0.form:Int),.agg #[.int .u8 x.tag,.int .u32 x.to],.int .i64 0] W fun r w'=>r=.returned (.bool true) ∧ Keeps W w':=fun W hW=>by
     have:=ref17_right (HRc.out.keeps hW) (T0.form:Int) x 0 HXO.out
     rw [HKR.out] at this
     exact this
    have HRI:=Lib.hid hri
    have hin:x.to < 2 ∨ look M'.cs x.to ≠ none:=by
     rcases (leads_iff.1 (kRight_lead HKR.out)).2 with h2 | ⟨r,q,_⟩
     ·exact .inl h2
     ·exact .inr (by rw [q];simp)
    have hfa:FitA M':=fun id r hl=>HS4.out.fit hl
    have hpr:=(readB_ok HG0.out.good.read).perm
    have h16:=(readB_ok HG0.out.good.read).vars
    have hby:∀ W,Keeps w10 W → Calls Tryz.prog 19 #[.pointer (some ⟨w9.heap.size,0,none⟩),.slice a2 N cap2,.int .u8 (T0.form:Int),.agg #[.int .u8 x.tag,.int .u32 x.to]] W fun r w'=>∃ a5 cap5,r=.returned (.slice a5 K cap5) ∧ BsAt w' a5 bs ∧ Keeps W w':=fun W hW=>by
     have:=refSave_calls (HRc.out.keeps hW) hfa HFE.out a2 cap2 ps (fun i x hx=>by obtain ⟨b,off,q1,q2⟩:=HI.out i x hx;exact ⟨b,off,q1,(HK4.out.trans (HKT.out.trans hW)).cell q2⟩) (by rw [← HPP.out];exact hpr.2) (by rw [← HPP.out];omega) (T0.form:Int) ⟨by omega,by omega⟩ x HXO.out hin
     rw [← HN.out] at this
     refine this.mono fun r w' hh=>?_
     obtain ⟨v,rfl,hxx,hk⟩:=hh
     obtain ⟨a5,cap5,rfl,hat⟩:=hxx.slice
     have hsv:=HSV.out
     rw [HPP.out] at hsv
     rw [hsv] at hat ⊢
     rw [← HK.out]
     exact ⟨a5,cap5,rfl,hat,hk⟩
    have HBY:=Lib.hid hby
    have hs4:∀ W,Keeps w W → ∀ (a5:Option Addr) (cap5:Nat),BsAt W a5 bs → Calls Tryz.prog 18 #[.slice a5 K cap5,.slice a3 K cap3] W fun e w'=>e=.returned (.bool true) ∧ Keeps W w':=fun W hW a5 cap5 h5=>by
     have:=same04_calls a5 a3 cap5 cap3 bs bs W h5 (HBA.out.keeps hW) (by rw [← HK.out];omega) (by rw [← HK.out];omega)
     rw [← HK.out,decide_eq_true rfl] at this
     exact this
    have HS04:=Lib.hid hs4
    have HSTY:=Lib.hid (fun (W:World) (hW:Keeps w4 W)=>stays_calls (HS4.out.keeps hW) (HR4.out.keeps hW) HEX.out)
    have HKX:=Lib.hid (HK4.out.trans HKT.out)
    clear hri hin hfa hpr h16 hby hs4 hk9 hk10 hRc
    go_wp2_with (first
     | (go_at_call 17;refine (HRI.out _ (by (exact kp))).mono ?_;rintro e w11 ⟨rfl,hk11⟩;replace e0:=hk11.cell e0;replace e1:=hk11.cell e1)
     | (go_at_call 19;refine (HBY.out _ (by (exact kp))).mono ?_;rintro e w12 ⟨a12,cap12,rfl,hat12,hk12⟩)
     | (go_at_call 18;refine (HS04.out _ (HKX.out.trans (by (exact kp))) _ _ hat12).mono ?_;rintro e w13 ⟨rfl,hk13⟩)
     | (go_at_call 20;refine (HSTY.out _ (HKT.out.trans (by (exact kp)))).mono ?_;rintro e w14 ⟨rfl,hk14⟩)
     | fail)
    go_ret
    exact ⟨rfl,by have hkw:=HKX.out;(exact kp)⟩

theorem saveLoads_walk (n:Int) (a1:Option Addr) (l1 cap1:Nat) (rs:List Rec) (a2:Option Addr) (l2 cap2:Nat) (ps:List Int) (a3:Option Addr) (l3 cap3:Nat) (bs:List Int) (w:World) (_:(Lit.int .i64 n).wf=true) (hrs:IsRecs w a1 l1 rs) (hps:IsInts w a2 l2 ps) (hbs:IsBytes w a3 l3 cap3 bs) :
  Calls Tryz.prog 3 #[.int .i64 n,.slice a1 l1 cap1,.slice a2 l2 cap2,.slice a3 l3 cap3] w fun e w'=>e=.returned (.bool true) ∧ Keeps w w':=by
 by_cases h:40 < l1 ∨ n < 0 ∨ 16 < n ∨ 20 < l2 ∨ 400 < l3
 ·exact saveLoads_out n a1 l1 cap1 a2 l2 cap2 a3 l3 cap3 w h
 ·obtain ⟨rfl,hI,-⟩:=hps
  obtain ⟨rfl,hba,hib,hcap⟩:=hbs.at'
  exact saveLoads_in n a1 l1 cap1 rs a2 cap2 ps a3 cap3 bs w (by omega) (by omega) (by omega) (by omega) (by omega) hrs hI hba hib hcap

set_option maxRecDepth 100000 in
theorem saveLoads_lifted (os:Os) (started:os.Started) (H:Type) (enc:TypeId × Value → H) :
  ReturnsInHanded {} Tryz.checked os 3 .any (Rows.saveLoadsSpec.pre6 enc Tryz.prog Tryz.f3 Rows.saveLoadsRow.domain false) (Rows.saveLoadsSpec.post enc Tryz.prog Tryz.f3 false true false false):=by
 refine returnsInHanded_of_change (C:=Tryz.checked) own started (by kernel_rfl) Tryz.func3
  (ChangeSpec.witness6 (enc:=enc) (C:=Tryz.checked) false ⟨#[],#[.int .i64 0,.slice none 0 0,.slice none 0 0,.slice none 0 0],[]⟩ 12 (by kernel_rfl) (by kernel_rfl) (by kernel_rfl) (by kernel_rfl)) ?_
 intro W base args ds gs before hval0 hW hcnd _
 have hval:∀ (j:Nat) t v,Tryz.f3.params[j]?=some t → args[j]?=some v → Value.okWide Tryz.prog W .any base t v:=hval0
 have hW':=hW
 obtain ⟨p,q,hA0,hV,rfl,hfz,hnd⟩:=hW
 have hA:DataW.TrodAll enc Tryz.prog W 0 (fun _=>true) true Tryz.f3.params.toList args.toList ds p:=hA0
 rw [Tryz.params3] at hA hval
 have hAk:=hA
 obtain ⟨v0,vs0,d0,ds0,p0,q0,hargs,rfl,rfl,h0,r0⟩:=trodAll_cons hA
 obtain ⟨v1,vs1,d1,ds1,p1,q1,rfl,rfl,rfl,h1,r1⟩:=trodAll_cons r0
 obtain ⟨v2,vs2,d2,ds2,p2,q2,rfl,rfl,rfl,h2,r2⟩:=trodAll_cons r1
 obtain ⟨v3,vs3,d3,ds3,p3,q3,rfl,rfl,rfl,h3,r3⟩:=trodAll_cons r2
 obtain ⟨rfl,rfl,rfl⟩:=trodAll_nil r3
 obtain rfl:args=#[v0,v1,v2,v3]:=by cases args;simp_all
 obtain ⟨rfl,rfl⟩:=trodVars_none hV
 obtain ⟨a0,rfl,rfl,rfl,w0⟩:=open_int Tryz.underlying3 (hval 0 3 v0 rfl rfl) h0
 obtain ⟨a1,len1,cap1,rfl⟩:=okWide_slice Tryz.underlying22 (hval 1 22 v1 rfl rfl)
 obtain ⟨rs1,w1⟩:=open_recs h1
 obtain ⟨a2,len2,cap2,rfl⟩:=okWide_slice Tryz.underlying23 (hval 2 23 v2 rfl rfl)
 obtain ⟨rs2,w2⟩:=open_intRow h2
 obtain ⟨a3,len3,cap3,rfl⟩:=okWide_slice Tryz.underlying24 (hval 3 24 v3 rfl rfl)
 obtain ⟨rs3,w3⟩:=open_bytes h3
 clear hA0 hval0
 refine (saveLoads_walk a0 a1 len1 cap1 rs1 a2 len2 cap2 rs2 a3 len3 cap3 rs3 W w0 w1 w2 w3).mono fun e W' ⟨he,bel⟩=>?_
 subst he
 exact ⟨_,rfl,_,_,_,[],_,[],hW',trodAll_mk1 (shut_bool Tryz.underlying4 _),trodAll_below laidOut bel _ _ _ _ (by kernel_rfl) hAk,rfl,Below.frame bel _,fun h=>by cases h⟩

set_option maxHeartbeats 8000000 in
theorem saveLoads_over:Rows.saveLoadsRow.holds Tryz.pinned (OpenSpec.ofChange Rows.saveLoadsSpec):=
 OpenClaim.holds_of_wide 3 Tryz.f3 rfl rfl rfl rfl rfl rfl rfl ⟨rfl,rfl,rfl,rfl,rfl⟩ rfl rfl rfl rfl rfl (by as_aux_lemma=>kernel_rfl) Tryz.func3 (by unfold joinedFacts;(repeat' with_reducible refine Bool.and_eq_true_iff.2 ⟨?_,?_⟩);all_goals as_aux_lemma=>kernel_rfl)
  (of_decide_eq_true (by as_aux_lemma=>kernel_rfl)) (by unfold Func.isWrapper;first | (rw [if_pos (by decide +kernel)];kernel_rfl) | (rw [if_neg (by decide +kernel)];exact ⟨rfl,rfl⟩))
  (fun os started H enc _=>saveLoads_lifted os started H enc)

theorem saveLoads_proved:Rows.SaveLoadsSaid:=saveLoads_over

end Go.Proofs.YtfpjogpjocedaaaGreat
