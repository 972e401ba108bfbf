/-
  set.Right and set.Has.
-/
import Derived.Test.YtfpjogpjocedaaaGreatPSwapU
namespace Go.Proofs.YtfpjogpjocedaaaGreat
set_option linter.unusedSimpArgs false
set_option linter.unusedVariables false
set_option maxHeartbeats 600000
open Go.RowKit

def WordsAt (w:World) (a:Option Addr) (ws:List Int):Prop:=∀ i x,ws[i]?=some x → (0 ≤ x ∧ x < 2 ^ 64) ∧ ∃ b off,a=some ⟨b,off,none⟩ ∧ w.cell? ⟨b,off + i,none⟩=some (.int .u64 x)

theorem WordsAt.keeps {w w':World} {a:Option Addr} {ws:List Int} (h:WordsAt w a ws) (hk:Keeps w w'):WordsAt w' a ws:=fun i x hx=>by
 obtain ⟨h1,b,off,ha,hc⟩:=h i x hx
 exact ⟨h1,b,off,ha,hk.cell hc⟩

theorem setMay_calls (n:Int) (w:World):Calls Tryz.prog 92 #[.int .i64 n] w fun e w'=>e=.returned (.bool (decide (0 ≤ n ∧ n ≤ 16))) ∧ w=w':=by
 by_cases h0:0 ≤ n
 ·by_cases h1:n ≤ 16
  ·rw [decide_eq_true (show 0 ≤ n ∧ n ≤ 16 from ⟨h0,h1⟩)]
   go_enter Tryz.func92,Tryz.ntmps92
   go_wp2
   go_ret
   exact ⟨rfl,rfl⟩
  ·rw [decide_eq_false (show ¬ (0 ≤ n ∧ n ≤ 16) from fun h=>h1 h.2)]
   go_enter Tryz.func92,Tryz.ntmps92
   go_wp2
   go_ret
   exact ⟨rfl,rfl⟩
 ·rw [decide_eq_false (show ¬ (0 ≤ n ∧ n ≤ 16) from fun h=>h0 h.1)]
  go_enter Tryz.func92,Tryz.ntmps92
  go_wp2
  go_ret
  exact ⟨rfl,rfl⟩

theorem setWords_calls (n:Nat) (hn:n ≤ 16) (w:World):Calls Tryz.prog 93 #[.int .i64 (n:Int)] w fun e w'=>e=.returned (.int .i64 ((max 1 (2 ^ n / 64):Nat):Int)) ∧ w=w':=by
 have h:n=0 ∨ n=1 ∨ n=2 ∨ n=3 ∨ n=4 ∨ n=5 ∨ n=6 ∨ n=7 ∨ n=8 ∨ n=9 ∨ n=10 ∨ n=11 ∨ n=12 ∨ n=13 ∨ n=14 ∨ n=15 ∨ n=16:=by omega
 rcases h with rfl | rfl | rfl | rfl | rfl | rfl | rfl | rfl | rfl | rfl | rfl | rfl | rfl | rfl | rfl | rfl | rfl
 all_goals go_enter Tryz.func93,Tryz.ntmps93
 all_goals go_wp2
 all_goals go_ret
 all_goals exact ⟨rfl,rfl⟩

theorem and_one_u64 (E:Int) (h0:0 ≤ E) (h1:E < 18446744073709551616):bits BinOp.and IntKind.u64 E 1=E % 2:=by
 obtain ⟨a,rfl⟩:∃ a:Nat,E=(a:Int):=⟨E.toNat,by omega⟩
 have hx2:a &&& 1=a % 2:=Nat.and_one_is_mod a
 have h1:(BitVec.ofInt 64 (a:Int)).toNat=a:=by
  rw [BitVec.ofInt_natCast,BitVec.toNat_ofNat];exact Nat.mod_eq_of_lt (by omega)
 have h2:(BitVec.ofInt 64 ((1:Nat):Int)).toNat=1:=by
  rw [BitVec.ofInt_natCast,BitVec.toNat_ofNat]
 show IntKind.u64.wrap ((BitVec.ofInt 64 (a:Int) &&& BitVec.ofInt 64 ((1:Nat):Int)).toNat:Int)=_
 rw [BitVec.toNat_and,h1,h2,hx2]
 have:((a % 2:Nat):Int) % 2 ^ 64=((a % 2:Nat):Int):=Int.emod_eq_of_lt (by omega) (by omega)
 simp only [IntKind.wrap,IntKind.bits,IntKind.signed,this]
 simp

def fullK (n:Nat):Nat:=if 6 ≤ n then 64 else 2 ^ n

theorem setFull_calls (n:Nat) (hn:n ≤ 16) (w:World):Calls Tryz.prog 94 #[.int .i64 (n:Int)] w fun e w'=>e=.returned (.int .u64 (2 ^ fullK n - 1)) ∧ w=w':=by
 have h:n=0 ∨ n=1 ∨ n=2 ∨ n=3 ∨ n=4 ∨ n=5 ∨ n=6 ∨ n=7 ∨ n=8 ∨ n=9 ∨ n=10 ∨ n=11 ∨ n=12 ∨ n=13 ∨ n=14 ∨ n=15 ∨ n=16:=by omega
 rcases h with rfl | rfl | rfl | rfl | rfl | rfl | rfl | rfl | rfl | rfl | rfl | rfl | rfl | rfl | rfl | rfl | rfl
 all_goals go_enter Tryz.func94,Tryz.ntmps94
 all_goals go_wp2
 all_goals go_ret
 all_goals exact ⟨rfl,rfl⟩

theorem andNot_nat {a k:Nat} (ha:a < 2 ^ 64) (hk:k ≤ 64):a &&& (2 ^ 64 - (2 ^ k - 1 + 1))=0 ↔ a < 2 ^ k:=by
 have hp:0 < 2 ^ k:=Nat.pow_pos (by decide)
 have hp2:2 ^ k ≤ 2 ^ 64:=Nat.pow_le_pow_right (by decide) hk
 have hm:2 ^ k - 1 < 2 ^ 64:=by omega
 have hb:∀ i,(a &&& (2 ^ 64 - (2 ^ k - 1 + 1))).testBit i=(a.testBit i && (decide (i < 64) && !decide (i < k))):=fun i=>by
  rw [Nat.testBit_and,Nat.testBit_two_pow_sub_succ hm,Nat.testBit_two_pow_sub_one]
 constructor
 ·intro h
  apply Nat.lt_pow_two_of_testBit
  intro i hi
  by_cases h64:i < 64
  ·have:=hb i
   rw [h,Nat.zero_testBit,decide_eq_true h64,decide_eq_false (show ¬ i < k by omega)] at this
   simpa using this.symm
  ·exact Nat.testBit_lt_two_pow (Nat.lt_of_lt_of_le ha (Nat.pow_le_pow_right (by decide) (by omega)))
 ·intro h
  apply Nat.eq_of_testBit_eq
  intro i
  rw [hb i,Nat.zero_testBit]
  by_cases hi:i < k
  ·rw [decide_eq_true hi];simp
  ·rw [Nat.testBit_lt_two_pow (Nat.lt_of_lt_of_le h (Nat.pow_le_pow_right (by decide) (by omega)))];simp

theorem andNot_full {x:Int} (k:Nat) (h0:0 ≤ x) (h1:x < 2 ^ 64) (hk:k ≤ 64):(bits BinOp.andNot IntKind.u64 x (2 ^ k - 1) == 0)=decide (x < 2 ^ k):=by
 obtain ⟨a,rfl⟩:∃ a:Nat,x=(a:Int):=⟨x.toNat,by omega⟩
 have hp:0 < 2 ^ k:=Nat.pow_pos (by decide)
 have hp2:2 ^ k ≤ 2 ^ 64:=Nat.pow_le_pow_right (by decide) hk
 have e0:(2:Int) ^ k=((2 ^ k:Nat):Int):=by push_cast;rfl
 have ha:a < 2 ^ 64:=by
  have e64:(2:Nat) ^ 64=18446744073709551616:=rfl
  have e64':(2:Int) ^ 64=18446744073709551616:=rfl
  omega
 have hn:=andNot_nat ha hk
 rw [e0]
 obtain ⟨q,hq⟩:∃ q,q=2 ^ k:=⟨_,rfl⟩
 rw [← hq] at hp hp2 hn ⊢
 have ec:((q:Int) - 1)=((q - 1:Nat):Int):=by omega
 have e64:(2:Nat) ^ 64=18446744073709551616:=rfl
 have hof:∀ c:Nat,c < 2 ^ 64 → (BitVec.ofInt 64 (c:Int)).toNat=c:=fun c hc=>by
  rw [BitVec.ofInt_natCast,BitVec.toNat_ofNat];exact Nat.mod_eq_of_lt hc
 have hr:bits BinOp.andNot IntKind.u64 (a:Int) ((q:Int) - 1)=((a &&& (2 ^ 64 - (q - 1 + 1)):Nat):Int):=by
  rw [ec]
  show IntKind.u64.wrap ((BitVec.ofInt 64 (a:Int) &&& ~~~(BitVec.ofInt 64 ((q - 1:Nat):Int))).toNat:Int)=_
  rw [BitVec.toNat_and,BitVec.toNat_not,hof a ha,hof (q - 1) (by omega),show 2 ^ 64 - 1 - (q - 1)=2 ^ 64 - (q - 1 + 1) by omega]
  have hle:a &&& (2 ^ 64 - (q - 1 + 1)) ≤ a:=Nat.and_le_left
  have:((a &&& (2 ^ 64 - (q - 1 + 1)):Nat):Int) % 2 ^ 64=((a &&& (2 ^ 64 - (q - 1 + 1)):Nat):Int):=Int.emod_eq_of_lt (by omega) (by omega)
  simp only [IntKind.wrap,IntKind.bits,IntKind.signed,this]
  simp
 rw [hr]
 by_cases h:a < q
 ·rw [hn.2 h,decide_eq_true (show (a:Int) < (q:Int) by omega)]
  rfl
 ·have hne:¬ (a &&& (2 ^ 64 - (q - 1 + 1)))=0:=fun e=>h (hn.1 e)
  rw [decide_eq_false (show ¬ (a:Int) < (q:Int) by omega)]
  simp only [beq_eq_false_iff_ne,ne_eq]
  omega

set_option maxRecDepth 100000 in
theorem setRight_calls (n:Int) (aw:Option Addr) (len cap:Nat) (ws:List Int) (w:World) (hl:ws.length=len) (hlen:len ≤ 1048576) (hW:WordsAt w aw ws) :
  Calls Tryz.prog 59 #[.agg #[.int .i64 n,.slice aw len cap]] w fun e w'=>e=.returned (.bool (setOkB n ws)) ∧ Keeps w w':=by
 have k0:(w.alloc (.cells #[.int .i64 n,.slice aw len cap] 69)).cell? ⟨w.heap.size,0,none⟩=some (.int .i64 n):=by simp [go_sem]
 have k1:(w.alloc (.cells #[.int .i64 n,.slice aw len cap] 69)).cell? ⟨w.heap.size,1,none⟩=some (.slice aw len cap):=by simp [go_sem]
 have kk:Keeps w (w.alloc (.cells #[.int .i64 n,.slice aw len cap] 69)):=(Keeps.refl _).alloc _
 have hmy:=fun (W:World)=>setMay_calls n W
 by_cases h0:0 ≤ n ∧ n ≤ 16
 ·rw [decide_eq_true h0] at hmy
  obtain ⟨N,rfl⟩:∃ N:Nat,n=(N:Int):=⟨n.toNat,by omega⟩
  have hwd:=fun (W:World)=>setWords_calls N (by omega) W
  have hfl:=fun (W:World)=>setFull_calls N (by omega) W
  obtain ⟨wd,hwdd⟩:∃ wd,wd=max 1 (2 ^ N / 64):=⟨_,rfl⟩
  rw [← hwdd] at hwd
  have hwd1:1 ≤ wd:=by omega
  obtain ⟨W1,hW1⟩:∃ W1,W1=w.alloc (.cells #[.int .i64 (N:Int),.slice aw len cap] 69):=⟨_,rfl⟩
  rw [← hW1] at k0 k1 kk
  by_cases h2:len=wd
  ·obtain ⟨x,hx⟩:∃ b,ws[0]?=some b:=⟨_,List.getElem?_eq_getElem (by omega)⟩
   obtain ⟨⟨x0,x1⟩,b,off,rfl,hc⟩:=(hW.keeps kk) 0 x hx
   rw [Nat.add_zero] at hc
   have hk64:fullK N ≤ 64:=by
    unfold fullK
    split
    ·exact Nat.le_refl _
    ·have:2 ^ N ≤ 2 ^ 6:=Nat.pow_le_pow_right (by decide) (by omega)
     have e6:(2:Nat) ^ 6=64:=rfl
     omega
   have han:=andNot_full (fullK N) x0 x1 hk64
   have hres:setOkB (N:Int) ws=decide (x < 2 ^ fullK N):=by
    have hgd:ws.getD 0 0=x:=by rw [List.getD_eq_getElem?_getD,hx];rfl
    unfold setOkB fullK
    rw [decide_eq_true h0,Int.toNat_natCast,hl,← hwdd,decide_eq_true h2,hgd,Bool.true_and,Bool.true_and]
    by_cases h6:6 ≤ N
    ·rw [if_pos h6,decide_eq_true (show 6 ≤ (N:Int) ∨ _ from .inl (by omega)),decide_eq_true x1]
    ·rw [if_neg h6]
     congr 1
     simp only [eq_iff_iff]
     exact ⟨fun hh=>by rcases hh with hh | hh;omega;exact hh,fun hh=>.inr hh⟩
   obtain ⟨fl,hfll⟩:∃ fl:Int,fl=2 ^ fullK N - 1:=⟨_,rfl⟩
   rw [← hfll] at hfl han
   obtain ⟨r,hr⟩:∃ r,r=decide (x < 2 ^ fullK N):=⟨_,rfl⟩
   rw [← hr] at han hres
   rw [hres]
   have HMY:=Lib.hid hmy
   have HWD:=Lib.hid hwd
   have HFL:=Lib.hid hfl
   have HW1:=Lib.hid hW1
   clear hmy hwd hfl hW1 hW hx hres hfll hr hwdd k0 k1
   subst h2
   have k0:W1.cell? ⟨w.heap.size,0,none⟩=some (.int .i64 (N:Int)):=by rw [HW1.out];simp [go_sem]
   have k1:W1.cell? ⟨w.heap.size,1,none⟩=some (.slice (some ⟨b,off,none⟩) len cap):=by rw [HW1.out];simp [go_sem]
   go_enter Tryz.func59,Tryz.ntmps59
   go_wp2_with fail
   rw [← HW1.out]
   have k0k:=KWorld.cell k0
   have k1k:=KWorld.cell k1
   have k2k:=KWorld.cell hc
   refine wp_region_keeps (W1) (by kernel_rfl) (by kernel_rfl) (by (exact kp)) ?_;(repeat (go_big_quiet_step ((first | (go_at_call 92;with_reducible refine Calls.sameK (HMY.out _)) | (go_at_call 93;with_reducible refine Calls.sameK (HWD.out _)) | (go_at_call 94;with_reducible refine Calls.sameK (HFL.out _))))));refine wpQuiet_nil ?_;rintro wq ⟨⟨_,hkq⟩,rfl⟩;try dsimp only
   go_wp2_with fail
   go_ret
   exact ⟨rfl,kk.trans hkq⟩
  ·have hb:setOkB (N:Int) ws=false:=by
    cases hb:setOkB (N:Int) ws with
    | false=>rfl
    | true=>
     have:=(setOkB_iff.1 hb).2.1
     rw [Int.toNat_natCast,← hwdd,hl] at this
     exact absurd this h2
   rw [hb]
   have h2':¬ (len:Int)=(wd:Int):=by omega
   have h2b:((len:Int) == (wd:Int))=false:=by simp [h2']
   have h2c:(len == wd)=false:=by simp [h2]
   have HMY:=Lib.hid hmy
   have HWD:=Lib.hid hwd
   have HW1:=Lib.hid hW1
   clear hmy hwd hW1 hW hb hwdd
   go_enter Tryz.func59,Tryz.ntmps59
   go_wp2_with fail
   rw [← HW1.out]
   have k0k:=KWorld.cell k0
   have k1k:=KWorld.cell k1
   refine wp_region_keeps (W1) (by kernel_rfl) (by kernel_rfl) (by (exact kp)) ?_;(repeat (go_big_quiet_step ((first | (go_at_call 92;with_reducible refine Calls.sameK (HMY.out _)) | (go_at_call 93;with_reducible refine Calls.sameK (HWD.out _))))));refine wpQuiet_nil ?_;rintro wq ⟨⟨_,hkq⟩,rfl⟩;try dsimp only
   go_wp2_with fail
   go_ret
   exact ⟨rfl,kk.trans hkq⟩
 ·rw [decide_eq_false h0] at hmy
  have hb:setOkB n ws=false:=by
   cases hb:setOkB n ws with
   | false=>rfl
   | true=>exact absurd (setOkB_iff.1 hb).1 h0
  obtain ⟨W1,hW1⟩:∃ W1,W1=w.alloc (.cells #[.int .i64 n,.slice aw len cap] 69):=⟨_,rfl⟩
  rw [← hW1] at k0 k1 kk
  rw [hb]
  have HMY:=Lib.hid hmy
  have HW1:=Lib.hid hW1
  clear hmy hW1 hW hb h0
  go_enter Tryz.func59,Tryz.ntmps59
  go_wp2_with fail
  rw [← HW1.out]
  have k0k:=KWorld.cell k0
  have k1k:=KWorld.cell k1
  refine wp_region_keeps (W1) (by kernel_rfl) (by kernel_rfl) (by (exact kp)) ?_;(repeat (go_big_quiet_step ((first | (go_at_call 92;with_reducible refine Calls.sameK (HMY.out _))))));refine wpQuiet_nil ?_;rintro wq ⟨⟨_,hkq⟩,rfl⟩;try dsimp only
  go_wp2_with fail
  go_ret
  exact ⟨rfl,kk.trans hkq⟩

set_option maxRecDepth 100000 in
theorem setHas_calls (n x:Nat) (aw:Option Addr) (len cap:Nat) (ws:List Int) (w:World) (hl:ws.length=len) (hlen:len ≤ 1048576) (hW:WordsAt w aw ws) (hok:setOkB (n:Int) ws=true) (hx:x < 2 ^ n) :
  Calls Tryz.prog 95 #[.agg #[.int .i64 (n:Int),.slice aw len cap],.int .i64 (x:Int)] w fun e w'=>e=.returned (.bool (hasB ws x)) ∧ Keeps w w':=by
 obtain ⟨h0,h1,h2⟩:=setOkB_iff.1 hok
 rw [Int.toNat_natCast,hl] at h1
 have hp16:2 ^ n ≤ 2 ^ 16:=Nat.pow_le_pow_right (by decide) (by omega)
 have e16:(2:Nat) ^ 16=65536:=rfl
 have h64:2 ^ n ≤ 64 ∨ ∃ k,2 ^ n=64 * k:=by
  by_cases h6:n ≤ 6
  ·left
   have:2 ^ n ≤ 2 ^ 6:=Nat.pow_le_pow_right (by decide) h6
   exact this
  ·right
   refine ⟨2 ^ (n - 6),?_⟩
   rw [show (64:Nat)=2 ^ 6 from rfl,← Nat.pow_add]
   congr 1
   omega
 have hxl:x / 64 < len:=by
  rcases h64 with h64 | ⟨k,h64⟩
  ·omega
  ·rw [h64] at hx h1
   have:64 * k / 64=k:=by omega
   omega
 obtain ⟨v,hv⟩:∃ b,ws[x / 64]?=some b:=⟨_,List.getElem?_eq_getElem (by omega)⟩
 obtain ⟨⟨v0,v1⟩,b,off,rfl,hc⟩:=hW (x / 64) v hv
 have hrt:=fun (W:World) (hk:Keeps w W)=>setRight_calls (n:Int) (some ⟨b,off,none⟩) len cap ws W hl hlen (hW.keeps hk)
 rw [hok] at hrt
 have hres:hasB ws x=(v / 2 ^ (x % 64) % 2 == 1):=by
  unfold hasB
  rw [List.getD_eq_getElem?_getD,hv]
  rfl
 have hdv0:0 ≤ v / 2 ^ (x % 64):=Int.ediv_nonneg v0 (Int.le_of_lt (Int.pow_pos (by decide)))
 have hdv1:v / 2 ^ (x % 64) ≤ v:=Int.ediv_le_self _ v0
 have hand:=and_one_u64 (v / 2 ^ (x % 64)) hdv0 (by omega)
 rw [hres]
 have hxn:(x:Int) < 2 ^ n:=by exact_mod_cast hx
 have hwp:=wrap_pow (x:=(n:Int)) (by omega)
 rw [Int.toNat_natCast] at hwp
 have HRT:=Lib.hid hrt
 have x0:(0:Int) ≤ (x:Int):=by omega
 have hx63:x ≤ 65536:=by omega
 clear hrt hW hok h1 h2 hv hres hl
 go_enter Tryz.func95,Tryz.ntmps95
 go_wp2_with fail
 refine (HRT.out _ (by (exact kp))).mono ?_
 rintro e w1 ⟨rfl,hk1⟩
 have q0:=hk1.cell (a:=⟨w.heap.size,0,none⟩) (v:=.int .i64 (n:Int)) (by simp [go_sem])
 have q1:=hk1.cell (a:=⟨w.heap.size,1,none⟩) (v:=.slice (some ⟨b,off,none⟩) len cap) (by simp [go_sem])
 have hc1:=(((Keeps.refl w).alloc (.cells #[.int .i64 (n:Int),.slice (some ⟨b,off,none⟩) len cap] 69)).trans hk1).cell hc
 have hsz:=hk1.size
 simp only [World.size_alloc] at hsz
 have hbl:b < w1.heap.size:=lt_of_cell hc1
 have hwl:w.heap.size < w1.heap.size:=by omega
 go_wp2_with fail
 go_ret
 exact ⟨rfl,by (exact kp)⟩

def wAt (ts:List Bool) (x j:Nat):Nat:=numL ((ts.drop (max x (64 * j))).take (64 * (j + 1) - max x (64 * j)))

theorem wAt_top (ts:List Bool) (j:Nat):wAt ts ts.length j=0:=by
 unfold wAt
 rw [List.drop_of_length_le (by omega),List.take_nil]
 rfl

theorem wAt_zero (ts:List Bool) (j:Nat):wAt ts 0 j=numL ((ts.drop (64 * j)).take 64):=by
 unfold wAt
 rw [show max 0 (64 * j)=64 * j by omega,show 64 * (j + 1) - 64 * j=64 by omega]

theorem wAt_here {ts:List Bool} {x:Nat} {b:Bool} (hb:ts[x]?=some b):wAt ts x (x / 64)=(if b then 1 else 0) + 2 * wAt ts (x + 1) (x / 64):=by
 obtain ⟨hl,he⟩:=List.getElem?_eq_some_iff.1 hb
 unfold wAt
 rw [show max x (64 * (x / 64))=x by omega,show max (x + 1) (64 * (x / 64))=x + 1 by omega,List.drop_eq_getElem_cons hl,he,show 64 * (x / 64 + 1) - x=(64 * (x / 64 + 1) - (x + 1)) + 1 by omega,List.take_succ_cons]
 rfl

theorem wAt_else {ts:List Bool} {x j:Nat} (hj:¬ j=x / 64):wAt ts x j=wAt ts (x + 1) j:=by
 unfold wAt
 by_cases h:x < 64 * j
 ·rw [show max x (64 * j)=64 * j by omega,show max (x + 1) (64 * j)=64 * j by omega]
 ·rw [show 64 * (j + 1) - max x (64 * j)=0 by omega,show 64 * (j + 1) - max (x + 1) (64 * j)=0 by omega,List.take_zero,List.take_zero]

theorem wAt_lt (ts:List Bool) (x:Nat):wAt ts (x + 1) (x / 64) < 2 ^ 63:=by
 unfold wAt
 have h1:=numL_lt ((ts.drop (max (x + 1) (64 * (x / 64)))).take (64 * (x / 64 + 1) - max (x + 1) (64 * (x / 64))))
 have h2:((ts.drop (max (x + 1) (64 * (x / 64)))).take (64 * (x / 64 + 1) - max (x + 1) (64 * (x / 64)))).length ≤ 63:=by rw [List.length_take];omega
 exact Nat.lt_of_lt_of_le h1 (Nat.pow_le_pow_right (by decide) h2)

theorem wAt_step {ts:List Bool} {vs:List Int} {x:Nat} {b:Bool} {v y:Int} (hvs:∀ (j:Nat) (v:Int),vs[j]?=some v → v=(wAt ts (x + 1) j:Int)) (hb:ts[x]?=some b) (hv:vs[x / 64]?=some v) (hy:y=(if b then 1 else 0) + 2 * v) (j:Nat) (u:Int) (hu:(vs.set (x / 64) y)[j]?=some u):u=(wAt ts x j:Int):=by
 by_cases hj:j=x / 64
 ·subst hj
  rw [List.getElem?_set_self (List.getElem?_eq_some_iff.1 hv).1] at hu
  have h1:=hvs _ v hv
  rw [← Option.some.inj hu,hy,wAt_here hb,h1]
  cases b <;> simp
 ·rw [List.getElem?_set_ne (fun e=>hj e.symm)] at hu
  rw [wAt_else hj]
  exact hvs j u hu

def RowU (w:World) (g:Nat) (ps:List Int):Prop:=∃ cur:Array Value,w.heap[g]?=some (.cells cur 60 (0,0)) ∧ ∀ (i:Nat) (x:Int),ps[i]?=some x → cur[i]?=some (Value.int .u64 x)

theorem RowU.cell {w:World} {g:Nat} {ps:List Int} (h:RowU w g ps) {i:Nat} {x:Int} (hx:ps[i]?=some x):w.cell? ⟨g,i,none⟩=some (.int .u64 x):=by
 obtain ⟨cur,h1,h2⟩:=h
 rw [cell_of_row w g i _ _ _ h1]
 simp only [h2 i x hx]

theorem RowU.frozen {w:World} {g:Nat} {ps:List Int} (h:RowU w g ps) (i:Nat):w.frozen? ⟨g,i,none⟩=false:=by
 obtain ⟨cur,h1,h2⟩:=h
 exact frozen_of_row w g i _ _ h1

theorem RowU.lt {w:World} {g:Nat} {ps:List Int} (h:RowU w g ps):g < w.heap.size:=by
 obtain ⟨cur,h1,h2⟩:=h
 exact lt_of_heap h1

theorem RowU.keep {G:Nat → Prop} {w w':World} {g:Nat} {ps:List Int} (h:RowU w g ps) (hu:Upd G w w') (hg:¬ G g):RowU w' g ps:=by
 have hl:=h.lt
 obtain ⟨cur,h1,h2⟩:=h
 exact ⟨cur,(hu.block g hl hg).trans h1,h2⟩

theorem RowU.words {w:World} {g:Nat} {ps:List Int} (h:RowU w g ps) (hr:∀ x ∈ ps,0 ≤ x ∧ x < 2 ^ 64):WordsAt w (some ⟨g,0,none⟩) ps:=fun i x hx=>⟨hr x (List.mem_of_getElem? hx),g,0,rfl,by rw [Nat.zero_add];exact h.cell hx⟩

theorem RowU.set {w:World} {g:Nat} {ps:List Int} (h:RowU w g ps) (i:Nat) (y:Int) (hi:i < ps.length):RowU (w.setCell ⟨g,i,none⟩ (.int .u64 y)) g (ps.set i y):=by
 obtain ⟨cur,h1,h2⟩:=h
 refine ⟨_,Go.heap_setCell_same w g i _ _ (.int .u64 y) h1,fun j x hx=>?_⟩
 rw [Array.getElem?_setIfInBounds]
 by_cases hj:i=j
 ·subst hj
  have hc:=h2 i ps[i] (by simp [hi])
  have hs:i < cur.size:=(Array.getElem?_eq_some_iff.1 hc).1
  rw [if_pos rfl,if_pos hs]
  simp [hi] at hx
  rw [hx]
 ·rw [if_neg hj]
  rw [List.getElem?_set_ne hj] at hx
  exact h2 j x hx

theorem rowU_made {w:World} {blk n:Nat} (h:w.ownsRow blk 60 1 (.slice (some ⟨blk,0,none⟩) n n) n (madeCells (Value.int .u64 0).cells (n * 1)).toList):RowU w blk (List.replicate n 0):=by
 have e:(madeCells (Value.int .u64 0).cells (n * 1)).toList=(List.replicate n (0:Int)).map (Value.int .u64):=by
  rw [List.map_replicate,Nat.mul_one]
  simp [madeCells,Value.cells,Nat.mod_one]
  rw [List.map_const',List.length_range]
 rw [e] at h
 rcases h.2 with ⟨h0,_⟩ | ⟨g',cap',cur,hv,hb,hg,_,_,hs,ht⟩
 ·cases h0
 ·cases hv
  obtain ⟨cur0,hcur0⟩:=owns_type h (k:=blk) rfl
  refine ⟨cur,hg,fun i x hx=>?_⟩
  have h1:((List.replicate n (0:Int)).map (Value.int .u64))[i]?=some (.int .u64 x):=by rw [List.getElem?_map,hx];rfl
  rw [← ht,List.getElem?_take] at h1
  split at h1
  ·rw [Array.getElem?_toList] at h1
   exact h1
  ·cases h1

theorem info_u64:(Tryz.prog.info? 60).map (fun i=>(i.zero,i.size,i.bytes))=some (some (.int .u64 0),1,8):=by kernel_rfl

theorem wordsL_range {ts:List Bool} {x:Int} (h:x ∈ wordsL ts):0 ≤ x ∧ x < 2 ^ 64:=by
 unfold wordsL at h
 obtain ⟨w,_,rfl⟩:=List.mem_map.1 h
 have h1:=numL_lt ((ts.drop (64 * w)).take 64)
 have h2:((ts.drop (64 * w)).take 64).length ≤ 64:=by rw [List.length_take];omega
 have h3:2 ^ ((ts.drop (64 * w)).take 64).length ≤ 2 ^ 64:=Nat.pow_le_pow_right (by decide) h2
 have e64:(2:Nat) ^ 64=18446744073709551616:=rfl
 have e64':(2:Int) ^ 64=18446744073709551616:=rfl
 omega

set_option maxRecDepth 100000 in
theorem setOf_calls (n:Int) (B cap:Nat) (ts:List Bool) (w:World) (hB:BoolsAt w B ts) (hl:ts.length ≤ 65536) (h0:1 ≤ ts.length) :
  Calls Tryz.prog 24 #[.int .i64 n,.slice (some ⟨B,0,none⟩) ts.length cap] w fun e w'=>∃ g,w.heap.size ≤ g ∧ e=.returned (.agg #[.int .i64 n,.slice (some ⟨g,0,none⟩) (wordsL ts).length (wordsL ts).length]) ∧ RowU w' g (wordsL ts) ∧ Keeps w w':=by
 have hwl:=wordsL_len ts
 obtain ⟨j0,hj,jz0,jz1,jz2⟩:=info_parts info_u64
 obtain ⟨N,hN⟩:∃ N,N=ts.length:=⟨_,rfl⟩
 rw [← hN] at hl h0 hwl ⊢
 obtain ⟨K,hK⟩:∃ K,K=(N + 63) / 64:=⟨_,rfl⟩
 rw [← hK] at hwl
 rw [hwl]
 have HB:=Lib.hid hB
 have HN:=Lib.hid hN
 have HWL:=Lib.hid hwl
 have hKi:((N:Int) + 63) / 64=(K:Int):=by omega
 have hK1:K ≤ 1025:=by omega
 have hKx:∀ x:Nat,x < N → x / 64 < K:=fun x hx=>by omega
 have HKX:=Lib.hid hKx
 clear hB hN hwl hKx hK
 go_enter Tryz.func24,Tryz.ntmps24
 go_wp2_with (first
  | (at_make;refine wpList_make_full _ rfl _ _ 67 rfl (w.heap.size + 1) 60 j0 (.int .u64 0) 1 Tryz.underlying67 hj jz0 jz1 .i64 .i64 _ _ K rfl rfl hKi hKi (by rw [jz2];omega) (by unfold maxLen;omega) (by simp) ?_;intro w1 hown1 hg1)
  | fail)
 rw [World.size_alloc] at hown1
 have HR1:=Lib.hid (rowU_made hown1)
 have hkk:Keeps (w.alloc (.cells #[.int .i64 0,.slice none 0 0] 69)) w1:=⟨hg1.os,hg1.tape,hg1.output,hg1.size,fun i hi=>hg1.block i hi (by simp)⟩
 have HKK:=Lib.hid (((Keeps.refl w).alloc _).trans hkk)
 have z0:=hkk.cell (a:=⟨w.heap.size,0,none⟩) (v:=.int .i64 0) (by simp [go_sem])
 have z1:=hkk.cell (a:=⟨w.heap.size,1,none⟩) (v:=.slice none 0 0) (by simp [go_sem])
 have zf:=fun o:Nat=>hkk.frz (a:=⟨w.heap.size,o,none⟩) (by simp) (by simp [go_sem])
 have s1:=hkk.size
 simp only [World.size_alloc] at s1
 clear hown1 hg1 hkk
 go_wp2_with fail
 go_loopg [6] N (fun gk s6 wr=>∃ vs:List Int,s6=.int .i64 ((gk:Int) - 1) ∧ gk ≤ N ∧ vs.length=K ∧ (∀ (j:Nat) (v:Int),vs[j]?=some v → v=(wAt ts gk j:Int)) ∧ RowU wr (w.heap.size + 1) vs ∧ Upd (fun k=>k=w.heap.size + 1) w1 wr)
 case atStart=>exact ⟨List.replicate K 0,rfl,Nat.le_refl _,by simp,fun j v hv=>by
  have hj:j < K:=by have:=(List.getElem?_eq_some_iff.1 hv).1;simpa using this
  rw [List.getElem?_replicate,if_pos hj] at hv
  rw [← Option.some.inj hv,HN.out,wAt_top]
  rfl,HR1.out,Upd.refl _ _⟩
 case round=>
  obtain ⟨vs,rfl,hgN,hvl,hvs,hR,hu⟩:=hrel
  have HR:=Lib.hid hR
  have HU:=Lib.hid hu
  have HVS:=Lib.hid hvs
  have HVL:=Lib.hid hvl
  clear hR hu hvs hvl
  by_cases hg0:0 < gk
  ·obtain ⟨x,hxg⟩:∃ x,x=gk - 1:=⟨_,rfl⟩
   have hgx:gk=x + 1:=by omega
   have HGX:=Lib.hid hgx
   rw [show ((gk:Int) - 1)=(x:Int) from by omega]
   have hxN:x < N:=by omega
   have hxK:=HKX.out x hxN
   obtain ⟨v,hv⟩:∃ b,vs[x / 64]?=some b:=⟨_,List.getElem?_eq_getElem (by rw [HVL.out];exact hxK)⟩
   have hve:=HVS.out _ v hv
   have hlt63:=wAt_lt ts x
   rw [HGX.out] at hve
   have v0:0 ≤ v:=by omega
   have v1:v ≤ 9223372036854775807:=by
    have e63:(2:Nat) ^ 63=9223372036854775808:=rfl
    omega
   obtain ⟨b,hb⟩:∃ b,ts[x]?=some b:=⟨_,List.getElem?_eq_getElem (by rw [← HN.out];exact hxN)⟩
   have hkw:=(HKK.out.new HU.out (fun k hk=>by omega))
   have cb:=(HB.out.keep (Keeps.upd hkw (fun _=>False)) (fun h=>h)).cell hb
   have cv:=HR.out.cell hv
   have cf:=HR.out.frozen (x / 64)
   have hbl:=lt_of_cell cb
   have hrl:=HR.out.lt
   dsimp only at hbl
   have HV:=Lib.hid hv
   have HVE:=Lib.hid hve
   have HBB:=Lib.hid hb
   have nBw:w.heap.size + 1 ≠ B:=fun e=>by have:=HB.out.lt;omega
   have nBw2:B ≠ w.heap.size + 1:=fun e=>nBw e.symm
   have wh:=wAt_here hb
   have HWH:=Lib.hid wh
   clear hv hve hlt63 hb hxg hgx wh
   cases b with
   | true=>
    go_wp2_with fail
    go_roundg (gk - 1)
    case rel=>
     refine ⟨vs.set (x / 64) (2 * v + 1),congrArg (Value.int .i64) (by have:=HGX.out;omega),by omega,by rw [List.length_set,HVL.out],fun j u hj=>?_,?_,?_⟩
     ·have:=HGX.out
      rw [show gk - 1=x from by omega]
      exact wAt_step (fun j v h=>by have h2:=HVS.out j v h;rw [HGX.out] at h2;exact h2) HBB.out HV.out (by simp;omega) j u hj
     ·have:=(HR.out.set (x / 64) (2 * v) (by rw [HVL.out];exact hxK)).set (x / 64) (2 * v + 1) (by rw [List.length_set,HVL.out];exact hxK)
      rwa [List.set_set] at this
     ·exact (HU.out.setCell (p:=⟨w.heap.size + 1,x / 64,none⟩) (.inl rfl) _).setCell (p:=⟨w.heap.size + 1,x / 64,none⟩) (.inl rfl) _
    case measure=>omega
   | false=>
    go_wp2_with fail
    go_roundg (gk - 1)
    case rel=>
     refine ⟨vs.set (x / 64) (2 * v),congrArg (Value.int .i64) (by have:=HGX.out;omega),by omega,by rw [List.length_set,HVL.out],fun j u hj=>?_,?_,?_⟩
     ·have:=HGX.out
      rw [show gk - 1=x from by omega]
      exact wAt_step (fun j v h=>by have h2:=HVS.out j v h;rw [HGX.out] at h2;exact h2) HBB.out HV.out (by simp) j u hj
     ·exact HR.out.set (x / 64) (2 * v) (by rw [HVL.out];exact hxK)
     ·exact HU.out.setCell (p:=⟨w.heap.size + 1,x / 64,none⟩) (.inl rfl) _
    case measure=>omega
  ·have hz:gk=0:=by omega
   subst hz
   have hfin:vs=wordsL ts:=by
    apply List.ext_getElem?
    intro j
    by_cases hj:j < K
    ·obtain ⟨v,hv⟩:∃ b,vs[j]?=some b:=⟨_,List.getElem?_eq_getElem (by rw [HVL.out];exact hj)⟩
     have h1:=HVS.out j v hv
     rw [wAt_zero] at h1
     have h2:=wordsL_get (ts:=ts) (w:=j) (by rw [← wordsL_len,HWL.out];exact hj)
     rw [List.getD_eq_getElem?_getD] at h2
     obtain ⟨u,hu2⟩:∃ b,(wordsL ts)[j]?=some b:=⟨_,List.getElem?_eq_getElem (by rw [HWL.out];exact hj)⟩
     rw [hu2] at h2
     rw [hv,hu2,h1,← h2]
     rfl
    ·rw [List.getElem?_eq_none (by rw [HVL.out];omega),List.getElem?_eq_none (by rw [HWL.out];omega)]
   have hRf:=HR.out
   rw [hfin] at hRf
   have hUf:=HU.out
   have y0:=hUf.cellAt (by omega) z0
   have y1:=hUf.cellAt (by omega) z1
   have yf:=fun o:Nat=>hUf.frozen (a:=⟨w.heap.size,o,none⟩) (by dsimp only;omega) (by dsimp only;omega) (zf o)
   have hkw:=(HKK.out.new hUf (fun k hk=>by omega))
   have hws:=hUf.size
   have hwl:w.heap.size < wr.heap.size:=by omega
   have HRF:=Lib.hid hRf
   have HUF:=Lib.hid hUf
   have HKW:=Lib.hid hkw
   clear hRf hUf hkw z0 z1 zf hfin
   go_wp2_with fail
   refine bodyPost_ret (v:=.agg #[.int .i64 n,.slice (some ⟨w.heap.size + 1,0,none⟩) K K]) (by simp [results,Tryz.results24,go_sem,y0,y1,hwl]) rfl ⟨w.heap.size + 1,by omega,rfl,?_,?_⟩
   ·exact HRF.out.keep ((Upd.refl (fun k=>k=w.heap.size) wr).setCell (p:=⟨w.heap.size,0,none⟩) (.inl rfl) _ |>.setCell (p:=⟨w.heap.size,1,none⟩) (.inl rfl) _) (by omega)
   ·exact HKW.out.new ((Upd.refl (fun k=>k=w.heap.size) wr).setCell (p:=⟨w.heap.size,0,none⟩) (.inl rfl) _ |>.setCell (p:=⟨w.heap.size,1,none⟩) (.inl rfl) _) (fun k hk=>by omega)

end Go.Proofs.YtfpjogpjocedaaaGreat
