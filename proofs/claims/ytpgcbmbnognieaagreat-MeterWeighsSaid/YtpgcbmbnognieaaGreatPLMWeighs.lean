/-
  Proved: the statement MeterWeighs, for every input.
-/
import Derived.Test.YtpgcbmbnognieaaGreatPMWeigh
import Derived.Test.YtpgcbmbnognieaaGreatPMeterA
import Derived.Test.YtpgcbmbnognieaaGreatRows
namespace Go.Proofs.YtpgcbmbnognieaaGreat
set_option linter.unusedSimpArgs false
set_option linter.unusedVariables false
set_option maxHeartbeats 600000
open Go.ChangeShapes Go.WideShapes Go.ChangeAt Go.RowKit

set_option maxRecDepth 100000 in
theorem meterWeighs_out (n f:Int) (a:Option Addr) (len cap:Nat) (v:Edge) (al ah:Option Addr) (l1 c1 l2 c2:Nat) (w:World) (h:40 < len ∨ n < 0 ∨ 6 < n ∨ 20 < l1 ∨ 20 < l2) :
  Calls Tryz.prog 3 #[.int .i64 n,.slice a len cap,.int .u8 f,.agg #[.int .u8 v.tag,.int .u32 v.to],.slice al l1 c1,.slice ah l2 c2] w fun e w'=>e=.returned (.bool true) ∧ Keeps w w':=by
 have hh:40 < len ∨ (¬ 40 < len ∧ n < 0) ∨ (¬ 40 < len ∧ ¬ n < 0 ∧ 6 < n) ∨ (¬ 40 < len ∧ ¬ n < 0 ∧ ¬ 6 < n ∧ 20 < l1) ∨ (¬ 40 < len ∧ ¬ n < 0 ∧ ¬ 6 < n ∧ ¬ 20 < l1 ∧ 20 < l2):=by omega
 clear h
 rcases hh with h1 | ⟨h1,h2⟩ | ⟨h1,h2,h3⟩ | ⟨h1,h2,h3,h4⟩ | ⟨h1,h2,h3,h4,h5⟩
 all_goals
  go_enter Tryz.func3,Tryz.ntmps3
  go_wp2_with (first | (go_at_call 11;refine (l21_alive _).mono ?_;rintro e w1 ⟨rfl,hb⟩;have y0:=hb.cell (a:=⟨w.heap.size,0,none⟩) (v:=.int .u8 v.tag) (by simp [go_sem]);have y1:=hb.cell (a:=⟨w.heap.size,1,none⟩) (v:=.int .u32 v.to) (by simp [go_sem]);have hk:Keeps w w1:=(by (exact kp));have hsz:=hb.size;simp only [World.size_alloc] at hsz) | fail)
  go_ret
  exact ⟨rfl,hk⟩

set_option maxRecDepth 100000 in
set_option maxHeartbeats 1000000 in
theorem meterWeighs_in (n f:Int) (a:Option Addr) (len cap:Nat) (rs:List Rec) (v:Edge) (al ah:Option Addr) (l1 c1 l2 c2:Nat) (ls hs:List Int) (w:World) (hv:v.ok) (h1:len ≤ 40) (h2:0 ≤ n) (h3:n ≤ 6) (h4:l1 ≤ 20) (h5:l2 ≤ 20) (hrs:IsRecs w a len rs) (hl:ls.length=l1 ∧ WordsAt w al ls) (hh:hs.length=l2 ∧ WordsAt w ah hs) :
  Calls Tryz.prog 3 #[.int .i64 n,.slice a len cap,.int .u8 f,.agg #[.int .u8 v.tag,.int .u32 v.to],.slice al l1 c1,.slice ah l2 c2] w fun e w'=>e=.returned (.bool true) ∧ Keeps w w':=by
 have HR:=Lib.hid hrs
 have HV:=Lib.hid hv
 have HL:=Lib.hid hl
 have HH:=Lib.hid hh
 clear hrs hv hl hh
 go_enter Tryz.func3,Tryz.ntmps3
 go_wp2_with (first | (go_at_call 11;refine (l21_alive _).mono ?_;rintro e w1 ⟨rfl,hb⟩;have y0:=hb.cell (a:=⟨w.heap.size,0,none⟩) (v:=.int .u8 v.tag) (by simp [go_sem]);have y1:=hb.cell (a:=⟨w.heap.size,1,none⟩) (v:=.int .u32 v.to) (by simp [go_sem]);have hk:Keeps w w1:=(by (exact kp));have hsz:=hb.size;simp only [World.size_alloc] at hsz) | fail)
 refine (built' n 100 a len cap rs _ h2 (by omega) (by omega) (by omega) (by omega) (HR.out.keeps hk)).mono ?_
 rintro e w2 ⟨sb,mb,M,L,rfl,hB,hMn,hMr,hMl⟩
 subst hMn
 have HBB:=Lib.hid hB
 obtain ⟨⟨F,G,q1,q2,q3,q4,q5⟩,q6⟩:=hB
 have v0:=q6.cell y0
 have v1:=q6.cell y1
 have hkw:Keeps w w2:=hk.trans q6
 have hwz:w.heap.size < w2.heap.size:=by have:=q6.size;omega
 have hM:=fun (W:World) (hW:Keeps w2 W)=>rmay_calls (q2.keeps hW) f v 0 HV.out
 have hSm:=fun (W:World) (hW:Keeps w2 W)=>same_both (HBB.out.keeps hW)
 have HS:=Lib.hid hSm
 have HKW:=Lib.hid hkw
 have hr:=mayC_range M f v 0
 by_cases hw:weighC M f v l1 l2=0
 ·have hm0:mayC M f v 0=0:=by
   unfold weighC at hw
   by_cases hc:mayC M f v 0=0
   ·exact hc
   ·rw [if_pos hc] at hw;exact absurd hw hc
  have hl12:M.n=(l1:Int) ∧ M.n=(l2:Int):=by
   unfold weighC at hw
   rw [if_neg (by simp [hm0])] at hw
   by_cases hc:M.n ≠ (l1:Int) ∨ M.n ≠ (l2:Int)
   ·rw [if_pos hc] at hw;cases hw
   ·omega
  obtain ⟨hn1,hn2⟩:=hl12
  have hl2e:l2=l1:=by omega
  subst hl2e
  obtain ⟨hf,hld⟩:=mayC_zero hm0
  have hWg:=fun (W:World) (hW:Keeps w2 W)=>weigh_calls (q1.keeps hW) f v HV.out al ah l2 c1 c2 ls hs hn1 (by omega) HL.out.1 HH.out.1 (HL.out.2.keeps (hkw.trans hW)) (HH.out.2.keeps (hkw.trans hW)) hm0
  have hT:=fun (W:World) (hW:Keeps w2 W)=>table_calls (q2.keeps hW) f hf v HV.out l2 0 (by omega) hld
  have hsum:=wE_sum (wtF ls) (wtF hs) M (by omega) f v
  have hlen:(tabE M f v 0).length=2 ^ l2:=by rw [tabE_len];congr 1;omega
  rw [show M.n.toNat=l2 by omega] at hsum
  have hwl:=wE_small (words_ok HL.out.2) (words_ok HH.out.2) M f v 0 (by omega)
  obtain ⟨ts,hts⟩:∃ ts,ts=tabE M f v 0:=⟨_,rfl⟩
  obtain ⟨V,hVe⟩:∃ V,V=(wE (wtF ls) (wtF hs) M f v 0).toNat:=⟨_,rfl⟩
  rw [← hts] at hsum hlen
  rw [← hVe] at hwl
  rw [show ((0:Nat):Int)=0 from rfl,← hts] at hT
  rw [← hVe] at hWg
  have hRW:=fun (W:World) (hW:Keeps w2 W) (B cap:Nat) (hBo:BoolsAt W B ts)=>by
   have q:=rweigh_calls B cap l2 ts al ah c1 c2 ls hs W hBo hlen (by omega) (HL.out.2.keeps (hkw.trans hW)) (HH.out.2.keeps (hkw.trans hW)) HL.out.1 HH.out.1
   rw [hsum,← hVe,hlen] at q
   exact q
  rw [hm0] at hM
  obtain ⟨T,hT2⟩:∃ T,T=2 ^ l2:=⟨_,rfl⟩
  rw [← hT2] at hT hRW
  have HM:=Lib.hid hM
  have HWG:=Lib.hid hWg
  have HT:=Lib.hid hT
  have HRW:=Lib.hid hRW
  have HWL:=Lib.hid hwl
  rw [hn1]
  have g1:((l2:Int) == (l2:Int))=true:=by simp
  clear hM hSm hWg hT hRW hwl hsum hlen hts hVe hT2 hm0 hf hld hr hw q1 q2 q3 q4 q5 q6 hk hkw hn1 hn2
  go_wp2_with (first
   | (go_at_call 13;refine (HWG.out _ (by (exact kp))).mono ?_;rintro e w3 ⟨⟨x3,rfl,hx3⟩,hk3⟩;obtain ⟨A3,C3,rfl,-,nw3⟩:=natV_len hx3;have HX3:=Lib.hid nw3;have u0:=hk3.cell v0;have u1:=hk3.cell v1;clear hx3 nw3)
   | (go_at_call 14;refine (HM.out _ (by (exact kp))).mono ?_;rintro e w4 ⟨rfl,hk4⟩;have p0:=hk4.cell u0;have p1:=hk4.cell u1)
   | (go_at_call 17;refine (HT.out _ (by (exact kp))).mono ?_;rintro e w5 ⟨B5,rfl,-,hB5,hk5⟩;have HB5:=Lib.hid hB5;clear hB5)
   | (go_at_call 16;refine (HRW.out _ (by (exact kp)) B5 _ HB5.out).mono ?_;rintro e w6 ⟨a6,c6,rfl,hr6,hk6⟩;have HR6:=Lib.hid hr6;clear hr6)
   | (go_at_call 15;refine (is_calls A3 a6 C3 c6 V _ (HX3.out.keeps ((hk4.trans hk5).trans hk6)) HR6.out.ints (by have:=HWL.out.2;omega)).mono ?_;rintro e w7 ⟨rfl,hk7⟩)
   | (go_at_call 18;refine (HS.out _ (by (exact kp))).mono ?_;rintro e w8 ⟨rfl,hk8⟩)
   | fail)
  go_ret
  exact ⟨rfl,by have:=HKW.out;(exact kp)⟩
 ·have hWn:=fun (W:World) (hW:Keeps w2 W)=>weigh_no (q1.keeps hW) f v HV.out al ah l1 c1 l2 c2 hw (by omega)
  obtain ⟨n,hn⟩:∃ n,n=M.n:=⟨_,rfl⟩
  by_cases hm0:mayC M f v 0=0
  ·have hne:M.n ≠ (l1:Int) ∨ M.n ≠ (l2:Int):=by
    unfold weighC at hw
    rw [if_neg (by simp [hm0])] at hw
    by_cases hc:M.n ≠ (l1:Int) ∨ M.n ≠ (l2:Int)
    ·exact hc
    ·rw [if_neg hc] at hw;exact absurd rfl hw
   have hwe:weighC M f v l1 l2=1:=by unfold weighC;rw [if_neg (by simp [hm0]),if_pos hne]
   rw [hwe] at hWn
   rw [hm0] at hM
   rw [← hn] at hne ⊢
   have hcase:((l1:Int) == n)=false ∨ (((l1:Int) == n)=true ∧ ((l2:Int) == n)=false):=by
    by_cases hc:(l1:Int)=n
    ·right
     refine ⟨by simp [hc],?_⟩
     simp
     omega
    ·left
     simp [hc]
   have HM:=Lib.hid hM
   have HWN:=Lib.hid hWn
   clear hM hSm hWn hm0 hr hw hwe hne q1 q2 q3 q4 q5 q6 hk hkw hn
   rcases hcase with g1 | ⟨g1,g2⟩
   all_goals
    go_wp2_with (first
     | (go_at_call 13;refine (HWN.out _ (by (exact kp))).mono ?_;rintro e w3 ⟨rfl,hk3⟩;have u0:=hk3.cell v0;have u1:=hk3.cell v1)
     | (go_at_call 14;refine (HM.out _ (by (exact kp))).mono ?_;rintro e w4 ⟨rfl,hk4⟩)
     | fail)
    all_goals go_ret
    all_goals exact ⟨rfl,by have:=HKW.out;(exact kp)⟩
  ·have hwe:weighC M f v l1 l2=mayC M f v 0:=by unfold weighC;rw [if_pos hm0]
   rw [hwe] at hWn
   obtain ⟨c,hc⟩:∃ c,c=mayC M f v 0:=⟨_,rfl⟩
   rw [← hc] at hWn hM hr hm0
   rw [← hn]
   have g0:(c == 0)=false:=by simp [hm0]
   have HM:=Lib.hid hM
   have HWN:=Lib.hid hWn
   clear hM hSm hWn hm0 hw hwe q1 q2 q3 q4 q5 q6 hk hkw hn hc
   go_wp2_with (first
    | (go_at_call 13;refine (HWN.out _ (by (exact kp))).mono ?_;rintro e w3 ⟨rfl,hk3⟩;have u0:=hk3.cell v0;have u1:=hk3.cell v1)
    | (go_at_call 14;refine (HM.out _ (by (exact kp))).mono ?_;rintro e w4 ⟨rfl,hk4⟩)
    | fail)
   go_ret
   exact ⟨rfl,by have:=HKW.out;(exact kp)⟩

theorem meterWeighs_walk (n:Int) (a:Option Addr) (len cap:Nat) (rs:List Rec) (f:Int) (v:Edge) (al:Option Addr) (l1 c1:Nat) (ls:List Int) (ah:Option Addr) (l2 c2:Nat) (hs:List Int) (w:World) (_:(Lit.int .i64 n).wf=true) (hrs:IsRecs w a len rs) (_:(Lit.int .u8 f).wf=true) (hv:v.ok) (hl:IsWords w al l1 ls) (hh:IsWords w ah l2 hs) :
  Calls Tryz.prog 3 #[.int .i64 n,.slice a len cap,.int .u8 f,.agg #[.int .u8 v.tag,.int .u32 v.to],.slice al l1 c1,.slice ah l2 c2] w fun e w'=>e=.returned (.bool true) ∧ Keeps w w':=by
 by_cases h:40 < len ∨ n < 0 ∨ 6 < n ∨ 20 < l1 ∨ 20 < l2
 ·exact meterWeighs_out n f a len cap v al ah l1 c1 l2 c2 w h
 ·exact meterWeighs_in n f a len cap rs v al ah l1 c1 l2 c2 ls hs w hv (by omega) (by omega) (by omega) (by omega) (by omega) hrs hl hh

set_option maxRecDepth 100000 in
theorem meterWeighs_lifted (os:Os) (started:os.Started) (H:Type) (enc:TypeId × Value → H) :
  ReturnsInHanded {} Tryz.checked os 3 .any (Rows.meterWeighsSpec.pre6 enc Tryz.prog Tryz.f3 Rows.meterWeighsRow.domain false) (Rows.meterWeighsSpec.post enc Tryz.prog Tryz.f3 false true false false):=by
 refine returnsInHanded_of_change (C:=Tryz.checked) own started (by kernel_rfl) Tryz.func3
  (ChangeSpec.witness6 (enc:=enc) (C:=Tryz.checked) false ⟨#[],#[.int .i64 0,.slice none 0 0,.int .u8 0,.agg #[.int .u8 0,.int .u32 0],.slice none 0 0,.slice none 0 0],[]⟩ 12 (by kernel_rfl) (by kernel_rfl) (by kernel_rfl) (by kernel_rfl)) ?_
 intro W base args ds gs before hval0 hW hcnd _
 have hval:∀ (j:Nat) t v,Tryz.f3.params[j]?=some t → args[j]?=some v → Value.okWide Tryz.prog W .any base t v:=hval0
 have hW':=hW
 obtain ⟨p,q,hA0,hV,rfl,hfz,hnd⟩:=hW
 have hA:DataW.TrodAll enc Tryz.prog W 0 (fun _=>true) true Tryz.f3.params.toList args.toList ds p:=hA0
 rw [Tryz.params3] at hA hval
 have hAk:=hA
 obtain ⟨v0,vs0,d0,ds0,p0,q0,hargs,rfl,rfl,h0,r0⟩:=trodAll_cons hA
 obtain ⟨v1,vs1,d1,ds1,p1,q1,rfl,rfl,rfl,h1,r1⟩:=trodAll_cons r0
 obtain ⟨v2,vs2,d2,ds2,p2,q2,rfl,rfl,rfl,h2,r2⟩:=trodAll_cons r1
 obtain ⟨v3,vs3,d3,ds3,p3,q3,rfl,rfl,rfl,h3,r3⟩:=trodAll_cons r2
 obtain ⟨v4,vs4,d4,ds4,p4,q4,rfl,rfl,rfl,h4,r4⟩:=trodAll_cons r3
 obtain ⟨v5,vs5,d5,ds5,p5,q5,rfl,rfl,rfl,h5,r5⟩:=trodAll_cons r4
 obtain ⟨rfl,rfl,rfl⟩:=trodAll_nil r5
 obtain rfl:args=#[v0,v1,v2,v3,v4,v5]:=by cases args;simp_all
 obtain ⟨rfl,rfl⟩:=trodVars_none hV
 obtain ⟨a0,rfl,rfl,rfl,w0⟩:=open_int Tryz.underlying3 (hval 0 3 v0 rfl rfl) h0
 obtain ⟨a1,len1,cap1,rfl⟩:=okWide_slice Tryz.underlying22 (hval 1 22 v1 rfl rfl)
 obtain ⟨rs1,w1⟩:=open_recs h1
 obtain ⟨a2,rfl,rfl,rfl,w2⟩:=open_int Tryz.underlying5 (hval 2 5 v2 rfl rfl) h2
 obtain ⟨a3,w3,rfl⟩:=open_edge (hval 3 25 v3 rfl rfl) h3
 obtain ⟨a4,len4,cap4,rfl⟩:=okWide_slice Tryz.underlying26 (hval 4 26 v4 rfl rfl)
 obtain ⟨rs4,w4⟩:=open_u64s h4
 obtain ⟨a5,len5,cap5,rfl⟩:=okWide_slice Tryz.underlying26 (hval 5 26 v5 rfl rfl)
 obtain ⟨rs5,w5⟩:=open_u64s h5
 clear hA0 hval0
 refine (meterWeighs_walk a0 a1 len1 cap1 rs1 a2 a3 a4 len4 cap4 rs4 a5 len5 cap5 rs5 W w0 w1 w2 w3 w4 w5).mono fun e W' ⟨he,bel⟩=>?_
 subst he
 exact ⟨_,rfl,_,_,_,[],_,[],hW',trodAll_mk1 (shut_bool Tryz.underlying4 _),trodAll_below laidOut bel _ _ _ _ (by kernel_rfl) hAk,rfl,Below.frame bel _,fun h=>by cases h⟩

set_option maxHeartbeats 8000000 in
theorem meterWeighs_over:Rows.meterWeighsRow.holds Tryz.pinned (OpenSpec.ofChange Rows.meterWeighsSpec):=
 OpenClaim.holds_of_wide 3 Tryz.f3 rfl rfl rfl rfl rfl rfl rfl ⟨rfl,rfl,rfl,rfl,rfl⟩ rfl rfl rfl rfl rfl (by as_aux_lemma=>kernel_rfl) Tryz.func3 (by unfold joinedFacts;(repeat' with_reducible refine Bool.and_eq_true_iff.2 ⟨?_,?_⟩);all_goals as_aux_lemma=>kernel_rfl)
  (of_decide_eq_true (by as_aux_lemma=>kernel_rfl)) (by unfold Func.isWrapper;first | (rw [if_pos (by decide +kernel)];kernel_rfl) | (rw [if_neg (by decide +kernel)];exact ⟨rfl,rfl⟩))
  (fun os started H enc _=>meterWeighs_lifted os started H enc)

theorem meterWeighs_proved:Rows.MeterWeighsSaid:=meterWeighs_over

end Go.Proofs.YtpgcbmbnognieaaGreat
