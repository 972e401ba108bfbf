/-
  Proved: the statement MeterCounts, for every input.
-/
import Derived.Test.YtpgcbmbnognieaaGreatPRDeepF
import Derived.Test.YtpgcbmbnognieaaGreatPRProf
import Derived.Test.YtpgcbmbnognieaaGreatRows
namespace Go.Proofs.YtpgcbmbnognieaaGreat
set_option linter.unusedSimpArgs false
set_option linter.unusedVariables false
set_option maxHeartbeats 600000
open Go.ChangeShapes Go.WideShapes Go.ChangeAt Go.RowKit

theorem rows_ints {W:World} {g1 g2 k:Nat} {l:List Int} (hl:l.length=k) (hk:k ≤ 1000) (h1:RowI W g1 l) (h2:RowI W g2 l) :
  Calls Tryz.prog 26 #[.slice (some ⟨g1,0,none⟩) k k,.slice (some ⟨g2,0,none⟩) k k] W fun e w'=>e=.returned (.bool true) ∧ Keeps W w':=by
 have q:=ints_calls (some ⟨g1,0,none⟩) (some ⟨g2,0,none⟩) k k l l W h1.ints h2.ints (by omega) (by omega)
 rw [hl,decide_eq_true rfl] at q
 exact q

theorem one_digits (W:World) (x:Int) (b cp:Nat) (h0:0 ≤ x) (h1:x < 2 ^ 64) (hc:W.cell? ⟨b,0,none⟩=some (.int .u64 x)):Calls Tryz.prog 24 #[.slice (some ⟨b,0,none⟩) 1 cp] W fun e w'=>DigOut W e w' (natW 10 x.toNat):=by
 have q:=digits_calls (some ⟨b,0,none⟩) cp [x] W (fun i y hy=>by
  cases i with
  | zero=>simp at hy;subst hy;exact ⟨⟨h0,h1⟩,b,0,rfl,hc⟩
  | succ i=>simp at hy) (by show 1 ≤ 100;decide)
 rw [show (valW B64 [x]).toNat=x.toNat by show (x + B64 * 0).toNat=x.toNat;rw [Int.mul_zero,Int.add_zero]] at q
 exact q

set_option maxRecDepth 100000 in
theorem meterCounts_out (n f:Int) (a:Option Addr) (len cap:Nat) (v:Edge) (w:World) (h:40 < len ∨ n < 0 ∨ 8 < n) :
  Calls Tryz.prog 4 #[.int .i64 n,.slice a len cap,.int .u8 f,.agg #[.int .u8 v.tag,.int .u32 v.to]] w fun e w'=>e=.returned (.bool true) ∧ Keeps w w':=by
 have hh:40 < len ∨ (¬ 40 < len ∧ n < 0) ∨ (¬ 40 < len ∧ ¬ n < 0 ∧ 8 < n):=by omega
 clear h
 rcases hh with h1 | ⟨h1,h2⟩ | ⟨h1,h2,h3⟩
 all_goals
  go_enter Tryz.func4,Tryz.ntmps4
  go_wp2_with (first | (go_at_call 11;refine (l21_alive _).mono ?_;rintro e w1 ⟨rfl,hb⟩;have y0:=hb.cell (a:=⟨w.heap.size,0,none⟩) (v:=.int .u8 v.tag) (by simp [go_sem]);have y1:=hb.cell (a:=⟨w.heap.size,1,none⟩) (v:=.int .u32 v.to) (by simp [go_sem]);have hk:Keeps w w1:=(by (exact kp));have hsz:=hb.size;simp only [World.size_alloc] at hsz) | fail)
  go_ret
  exact ⟨rfl,hk⟩

set_option maxRecDepth 100000 in
set_option maxHeartbeats 2000000 in
theorem meterCounts_in (n f:Int) (a:Option Addr) (len cap:Nat) (rs:List Rec) (v:Edge) (w:World) (hv:v.ok) (h1:len ≤ 40) (h2:0 ≤ n) (h3:n ≤ 8) (hrs:IsRecs w a len rs) :
  Calls Tryz.prog 4 #[.int .i64 n,.slice a len cap,.int .u8 f,.agg #[.int .u8 v.tag,.int .u32 v.to]] w fun e w'=>e=.returned (.bool true) ∧ Keeps w w':=by
 have HR:=Lib.hid hrs
 have HV:=Lib.hid hv
 clear hrs hv
 go_enter Tryz.func4,Tryz.ntmps4
 go_wp2_with (first | (go_at_call 11;refine (l21_alive _).mono ?_;rintro e w1 ⟨rfl,hb⟩;have y0:=hb.cell (a:=⟨w.heap.size,0,none⟩) (v:=.int .u8 v.tag) (by simp [go_sem]);have y1:=hb.cell (a:=⟨w.heap.size,1,none⟩) (v:=.int .u32 v.to) (by simp [go_sem]);have hk:Keeps w w1:=(by (exact kp));have hsz:=hb.size;simp only [World.size_alloc] at hsz) | fail)
 refine (built' n 100 a len cap rs _ h2 (by omega) (by omega) (by omega) (by omega) (HR.out.keeps hk)).mono ?_
 rintro e w2 ⟨sb,mb,M,L,rfl,hB,hMn,hMr,hMl⟩
 subst hMn
 have HBB:=Lib.hid hB
 obtain ⟨⟨F,G,q1,q2,q3,q4,q5⟩,q6⟩:=hB
 have v0:=q6.cell y0
 have v1:=q6.cell y1
 have hkw:Keeps w w2:=hk.trans q6
 have hwz:w.heap.size < w2.heap.size:=by have:=q6.size;omega
 obtain ⟨n,hn⟩:∃ n:Nat,M.n=(n:Int):=⟨M.n.toNat,by omega⟩
 have h8:n ≤ 8:=by omega
 have hM:=fun (W:World) (hW:Keeps w2 W)=>rmay_calls (q2.keeps hW) f v 0 HV.out
 have HS:=Lib.hid (fun (W:World) (hW:Keeps w2 W)=>same_both (HBB.out.keeps hW))
 have HKW:=Lib.hid hkw
 have hr:=mayC_range M f v 0
 by_cases hm0:mayC M f v 0=0
 ·obtain ⟨hf,hld⟩:=mayC_zero hm0
  have hT:=fun (W:World) (hW:Keeps w2 W)=>table_calls (q2.keeps hW) f hf v HV.out n 0 (by omega) hld
  have hlen:(tabE M f v 0).length=2 ^ n:=by rw [tabE_len];congr 1;omega
  have h256:2 ^ n ≤ 256:=Nat.le_trans (Nat.pow_le_pow_right (by decide) h8) (by decide)
  have hcnt:=fun (W:World) (hW:Keeps w2 W)=>mcount_calls (q1.keeps hW) f v HV.out n hn h8 hm0
  have hones:=fun (W:World) (hW:Keeps w2 W)=>mones_calls (q1.keeps hW) f v HV.out n hn h8 hm0
  have hprof:=fun (W:World) (hW:Keeps w2 W)=>mprof_calls (q1.keeps hW) f v HV.out n hn h8 hm0
  have hdep:=fun (W:World) (hW:Keeps w2 W)=>mdepth_calls (q1.keeps hW) f v HV.out hn h8 hm0
  have hway:=fun (W:World) (hW:Keeps w2 W)=>mways_calls (q1.keeps hW) f v HV.out hn h8 hm0
  have hrdw:=fun (W:World) (hW:Keeps w2 W)=>rdeep_all (refl_ok q2) q2.wf hn h8 n 0 v W (by omega) (Nat.zero_le _) HV.out (by have:=down_leads HV.out hld;exact this) (q2.keeps hW)
  have hrprof:=fun (W:World) (hW:Keeps w2 W)=>rprof_calls (q2.keeps hW) v HV.out n hn h8
  have hrcnt:=fun (W:World) (B cap:Nat) (hBo:BoolsAt W B (tabE M f v 0))=>rcount_calls B cap (tabE M f v 0) W hBo (by omega)
  have hrones:=fun (W:World) (B cap:Nat) (hBo:BoolsAt W B (tabE M f v 0))=>rones_calls B cap n (tabE M f v 0) W hBo hlen h8
  have hcl:=cntL_le (tabE M f v 0) (2 ^ n)
  have hol:=onesL_len n (tabE M f v 0) (2 ^ n)
  have hpl:=profL_len M n (reachL M.cs [v.to]) (reachL M.cs [v.to]).length
  rw [show ((0:Nat):Int)=0 from rfl] at hT
  rw [hlen] at hrcnt hrones
  obtain ⟨OL,hOL⟩:∃ l,l=onesL n (tabE M f v 0) (2 ^ n):=⟨_,rfl⟩
  obtain ⟨PL,hPL⟩:∃ l,l=profL M n (reachL M.cs [v.to]) (reachL M.cs [v.to]).length:=⟨_,rfl⟩
  obtain ⟨C,hC⟩:∃ C,C=cntL (tabE M f v 0) (2 ^ n):=⟨_,rfl⟩
  obtain ⟨dd,hdd⟩:∃ d,d=dS M v.to:=⟨_,rfl⟩
  obtain ⟨pp,hpp⟩:∃ p,p=wS M v.to:=⟨_,rfl⟩
  rw [← hOL] at hones hrones hol
  rw [← hPL] at hprof hrprof hpl
  rw [← hC] at hcnt hrcnt hcl
  rw [← hdd] at hdep hrdw
  rw [← hpp] at hway hrdw
  obtain ⟨ts,hts⟩:∃ ts,ts=tabE M f v 0:=⟨_,rfl⟩
  rw [← hts] at hT hrcnt hrones
  obtain ⟨T,hT2⟩:∃ T,T=2 ^ n:=⟨_,rfl⟩
  rw [← hT2] at hT hrcnt hrones hcl h256
  have hclen:(natW B64 C).length ≤ 100:=by
   have h1:C ≤ 256:=by omega
   have h2:C < B64 ^ 1:=Nat.lt_of_le_of_lt h1 (by decide)
   have:=natW_len (v:=C) (k:=1) b64_two h2
   omega
  have hdg:∀ (W:World) (b cp:Nat),W.cell? ⟨b,0,none⟩=some (.int .u64 (C:Int)) → Calls Tryz.prog 24 #[.slice (some ⟨b,0,none⟩) 1 cp] W fun e w'=>DigOut W e w' (natW 10 C):=fun W b cp hc=>by
   have q:=one_digits W (C:Int) b cp (by omega) (by omega) hc
   rw [Int.toNat_natCast] at q
   exact q
  have HDG:=Lib.hid hdg
  clear hdg
  rw [hm0] at hM
  have HM:=Lib.hid hM
  have HT:=Lib.hid hT
  have HCN:=Lib.hid hcnt
  have HON:=Lib.hid hones
  have HPR:=Lib.hid hprof
  have HDE:=Lib.hid hdep
  have HWA:=Lib.hid hway
  have HRD:=Lib.hid hrdw
  have HRP:=Lib.hid hrprof
  have HRC:=Lib.hid hrcnt
  have HRO:=Lib.hid hrones
  have HLE:=Lib.hid (And.intro hol (And.intro hpl hclen))
  have hC256:C ≤ 256:=by omega
  have hdd2:(dd == dd)=true:=by simp
  have hpp2:(pp == pp)=true:=by simp
  clear hM hT hcnt hones hprof hdep hway hrdw hrprof hrcnt hrones hol hpl hclen hcl hlen h256 hOL hPL hC hdd hpp hts hT2 hm0 hf hld hr hn q1 q2 q3 q4 q5 q6 hk hkw
  go_wp2_with (first
   | (go_at_call 19;refine (HCN.out _ (by (exact kp))).mono ?_;rintro e w3 ⟨⟨x3,rfl,hx3⟩,hk3⟩;obtain ⟨A3,C3,rfl,-,nw3⟩:=natV_len hx3;have HX3:=Lib.hid nw3;have v0:=hk3.cell v0;have v1:=hk3.cell v1;clear hx3 nw3)
   | (go_at_call 20;refine (HON.out _ (by (exact kp))).mono ?_;rintro e w4 ⟨⟨g4,rfl,-,hr4⟩,hk4⟩;have HR4:=Lib.hid hr4;have v0:=hk4.cell v0;have v1:=hk4.cell v1;clear hr4)
   | (go_at_call 21;refine (HPR.out _ (by (exact kp))).mono ?_;rintro e w5 ⟨⟨g5,rfl,-,hr5⟩,hk5⟩;have HR5:=Lib.hid hr5;have v0:=hk5.cell v0;have v1:=hk5.cell v1;clear hr5)
   | (go_at_call 22;refine (HDE.out _ (by (exact kp))).mono ?_;rintro e w6 ⟨rfl,hk6⟩;have v0:=hk6.cell v0;have v1:=hk6.cell v1)
   | (go_at_call 23;refine (HWA.out _ (by (exact kp))).mono ?_;rintro e w7 ⟨rfl,hk7⟩;have v0:=hk7.cell v0;have v1:=hk7.cell v1)
   | (go_at_call 14;refine (HM.out _ (by (exact kp))).mono ?_;rintro e w8 ⟨rfl,hk8⟩;have v0:=hk8.cell v0;have v1:=hk8.cell v1)
   | (go_at_call 17;refine (HT.out _ (by (exact kp))).mono ?_;rintro e w9 ⟨B9,rfl,-,hB9,hk9⟩;have HB9:=Lib.hid hB9;have v0:=hk9.cell v0;have v1:=hk9.cell v1;clear hB9)
   | (go_at_call 25;refine (HRC.out _ B9 _ HB9.out).mono ?_;rintro e w10 ⟨rfl,hk10⟩;have v0:=hk10.cell v0;have v1:=hk10.cell v1)
   | (go_at_call 24;refine (HDG.out _ _ _ (by simp [go_sem])).mono ?_;rintro e w11 ⟨a11,c11,rfl,hr11,hk11⟩;have HR11:=Lib.hid hr11;have hk1b:Keeps w10 w11:=((Keeps.refl w10).alloc _).trans hk11;have v0:=hk1b.cell v0;have v1:=hk1b.cell v1;clear hr11)
   | (go_at_call 15;refine (is_calls A3 a11 C3 c11 C _ (HX3.out.keeps (by (exact kp))) HR11.out.ints HLE.out.2.2).mono ?_;rintro e w12 ⟨rfl,hk12⟩;have v0:=hk12.cell v0;have v1:=hk12.cell v1)
   | (go_at_call 27;refine (HRO.out _ B9 _ (HB9.out.keep (Keeps.upd (by (exact kp)) (fun _=>False)) (fun h=>h))).mono ?_;rintro e w13 ⟨⟨g13,rfl,-,hr13⟩,hk13⟩;have HR13:=Lib.hid hr13;have v0:=hk13.cell v0;have v1:=hk13.cell v1;clear hr13)
   | (go_at_call 26;have qq:=HR4;clear qq;refine (rows_ints HLE.out.1 (by omega) (HR4.out.keeps (by (exact kp))) HR13.out).mono ?_;rintro e w14 ⟨rfl,hk14⟩;have v0:=hk14.cell v0;have v1:=hk14.cell v1;clear HR4)
   | (go_at_call 28;refine (HRP.out _ (by (exact kp))).mono ?_;rintro e w15 ⟨⟨g15,rfl,-,hr15⟩,hk15⟩;have HR15:=Lib.hid hr15;have v0:=hk15.cell v0;have v1:=hk15.cell v1;clear hr15)
   | (go_at_call 26;refine (rows_ints HLE.out.2.1 (by omega) (HR5.out.keeps (by (exact kp))) HR15.out).mono ?_;rintro e w16 ⟨rfl,hk16⟩;have v0:=hk16.cell v0;have v1:=hk16.cell v1)
   | (go_at_call 29;refine (HRD.out _ (by (exact kp))).1.mono ?_;rintro e w17 ⟨rfl,hk17⟩;have v0:=hk17.cell v0;have v1:=hk17.cell v1)
   | (go_at_call 30;refine (HRD.out _ (by (exact kp))).2.mono ?_;rintro e w18 ⟨rfl,hk18⟩)
   | (go_at_call 18;refine (HS.out _ (by (exact kp))).mono ?_;rintro e w19 ⟨rfl,hk19⟩)
   | fail)
  go_ret
  exact ⟨rfl,by have:=HKW.out;(exact kp)⟩
 ·have hcn:=fun (W:World) (hW:Keeps w2 W)=>mcount_no (q1.keeps hW) f v HV.out n hn h8 _ rfl hm0
  have hon:=fun (W:World) (hW:Keeps w2 W)=>mones_no (q1.keeps hW) f v HV.out n hn h8 _ rfl hm0
  have hpr:=fun (W:World) (hW:Keeps w2 W)=>mprof_no (q1.keeps hW) f v HV.out hm0
  have hde:=fun (W:World) (hW:Keeps w2 W)=>mdepth_no (q1.keeps hW) f v HV.out hm0
  have hwa:=fun (W:World) (hW:Keeps w2 W)=>mways_no (q1.keeps hW) f v HV.out hm0
  obtain ⟨c,hc⟩:∃ c,c=mayC M f v 0:=⟨_,rfl⟩
  rw [← hc] at hcn hon hpr hde hwa hM hr hm0
  have g0:(c == 0)=false:=by simp [hm0]
  have HM:=Lib.hid hM
  have HCN:=Lib.hid hcn
  have HON:=Lib.hid hon
  have HPR:=Lib.hid hpr
  have HDE:=Lib.hid hde
  have HWA:=Lib.hid hwa
  clear hM hcn hon hpr hde hwa hm0 hc hn q1 q2 q3 q4 q5 q6 hk hkw
  go_wp2_with (first
   | (go_at_call 19;refine (HCN.out _ (by (exact kp))).mono ?_;rintro e w3 ⟨rfl,hk3⟩;have v0:=hk3.cell v0;have v1:=hk3.cell v1)
   | (go_at_call 20;refine (HON.out _ (by (exact kp))).mono ?_;rintro e w4 ⟨rfl,hk4⟩;have v0:=hk4.cell v0;have v1:=hk4.cell v1)
   | (go_at_call 21;refine (HPR.out _ (by (exact kp))).mono ?_;rintro e w5 ⟨rfl,hk5⟩;have v0:=hk5.cell v0;have v1:=hk5.cell v1)
   | (go_at_call 22;refine (HDE.out _ (by (exact kp))).mono ?_;rintro e w6 ⟨rfl,hk6⟩;have v0:=hk6.cell v0;have v1:=hk6.cell v1)
   | (go_at_call 23;refine (HWA.out _ (by (exact kp))).mono ?_;rintro e w7 ⟨rfl,hk7⟩;have v0:=hk7.cell v0;have v1:=hk7.cell v1)
   | (go_at_call 14;refine (HM.out _ (by (exact kp))).mono ?_;rintro e w8 ⟨rfl,hk8⟩;have v0:=hk8.cell v0;have v1:=hk8.cell v1)
   | fail)
  go_ret
  exact ⟨rfl,by have:=HKW.out;(exact kp)⟩

theorem meterCounts_walk (n:Int) (a:Option Addr) (len cap:Nat) (rs:List Rec) (f:Int) (v:Edge) (w:World) (_:(Lit.int .i64 n).wf=true) (hrs:IsRecs w a len rs) (_:(Lit.int .u8 f).wf=true) (hv:v.ok) :
  Calls Tryz.prog 4 #[.int .i64 n,.slice a len cap,.int .u8 f,.agg #[.int .u8 v.tag,.int .u32 v.to]] w fun e w'=>e=.returned (.bool true) ∧ Keeps w w':=by
 by_cases h:40 < len ∨ n < 0 ∨ 8 < n
 ·exact meterCounts_out n f a len cap v w h
 ·exact meterCounts_in n f a len cap rs v w hv (by omega) (by omega) (by omega) hrs

set_option maxRecDepth 100000 in
theorem meterCounts_lifted (os:Os) (started:os.Started) (H:Type) (enc:TypeId × Value → H) :
  ReturnsInHanded {} Tryz.checked os 4 .any (Rows.meterCountsSpec.pre6 enc Tryz.prog Tryz.f4 Rows.meterCountsRow.domain false) (Rows.meterCountsSpec.post enc Tryz.prog Tryz.f4 false true false false):=by
 refine returnsInHanded_of_change (C:=Tryz.checked) own started (by kernel_rfl) Tryz.func4
  (ChangeSpec.witness6 (enc:=enc) (C:=Tryz.checked) false ⟨#[],#[.int .i64 0,.slice none 0 0,.int .u8 0,.agg #[.int .u8 0,.int .u32 0]],[]⟩ 12 (by kernel_rfl) (by kernel_rfl) (by kernel_rfl) (by kernel_rfl)) ?_
 intro W base args ds gs before hval0 hW hcnd _
 have hval:∀ (j:Nat) t v,Tryz.f4.params[j]?=some t → args[j]?=some v → Value.okWide Tryz.prog W .any base t v:=hval0
 have hW':=hW
 obtain ⟨p,q,hA0,hV,rfl,hfz,hnd⟩:=hW
 have hA:DataW.TrodAll enc Tryz.prog W 0 (fun _=>true) true Tryz.f4.params.toList args.toList ds p:=hA0
 rw [Tryz.params4] at hA hval
 have hAk:=hA
 obtain ⟨v0,vs0,d0,ds0,p0,q0,hargs,rfl,rfl,h0,r0⟩:=trodAll_cons hA
 obtain ⟨v1,vs1,d1,ds1,p1,q1,rfl,rfl,rfl,h1,r1⟩:=trodAll_cons r0
 obtain ⟨v2,vs2,d2,ds2,p2,q2,rfl,rfl,rfl,h2,r2⟩:=trodAll_cons r1
 obtain ⟨v3,vs3,d3,ds3,p3,q3,rfl,rfl,rfl,h3,r3⟩:=trodAll_cons r2
 obtain ⟨rfl,rfl,rfl⟩:=trodAll_nil r3
 obtain rfl:args=#[v0,v1,v2,v3]:=by cases args;simp_all
 obtain ⟨rfl,rfl⟩:=trodVars_none hV
 obtain ⟨a0,rfl,rfl,rfl,w0⟩:=open_int Tryz.underlying3 (hval 0 3 v0 rfl rfl) h0
 obtain ⟨a1,len1,cap1,rfl⟩:=okWide_slice Tryz.underlying22 (hval 1 22 v1 rfl rfl)
 obtain ⟨rs1,w1⟩:=open_recs h1
 obtain ⟨a2,rfl,rfl,rfl,w2⟩:=open_int Tryz.underlying5 (hval 2 5 v2 rfl rfl) h2
 obtain ⟨a3,w3,rfl⟩:=open_edge (hval 3 25 v3 rfl rfl) h3
 clear hA0 hval0
 refine (meterCounts_walk a0 a1 len1 cap1 rs1 a2 a3 W w0 w1 w2 w3).mono fun e W' ⟨he,bel⟩=>?_
 subst he
 exact ⟨_,rfl,_,_,_,[],_,[],hW',trodAll_mk1 (shut_bool Tryz.underlying4 _),trodAll_below laidOut bel _ _ _ _ (by kernel_rfl) hAk,rfl,Below.frame bel _,fun h=>by cases h⟩

set_option maxHeartbeats 8000000 in
theorem meterCounts_over:Rows.meterCountsRow.holds Tryz.pinned (OpenSpec.ofChange Rows.meterCountsSpec):=
 OpenClaim.holds_of_wide 4 Tryz.f4 rfl rfl rfl rfl rfl rfl rfl ⟨rfl,rfl,rfl,rfl,rfl⟩ rfl rfl rfl rfl rfl (by as_aux_lemma=>kernel_rfl) Tryz.func4 (by unfold joinedFacts;(repeat' with_reducible refine Bool.and_eq_true_iff.2 ⟨?_,?_⟩);all_goals as_aux_lemma=>kernel_rfl)
  (of_decide_eq_true (by as_aux_lemma=>kernel_rfl)) (by unfold Func.isWrapper;first | (rw [if_pos (by decide +kernel)];kernel_rfl) | (rw [if_neg (by decide +kernel)];exact ⟨rfl,rfl⟩))
  (fun os started H enc _=>meterCounts_lifted os started H enc)

theorem meterCounts_proved:Rows.MeterCountsSaid:=meterCounts_over

end Go.Proofs.YtpgcbmbnognieaaGreat
