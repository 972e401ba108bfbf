/-
  ramageref21.Weigh: the sum of what a table's rows weigh, as digits.
-/
import Derived.Test.YtpgcbmbnognieaaGreatPNatD
import Derived.Test.YtpgcbmbnognieaaGreatPTableW
import Derived.Test.YtpgcbmbnognieaaGreatPWeighT
namespace Go.Proofs.YtpgcbmbnognieaaGreat
set_option linter.unusedSimpArgs false
set_option linter.unusedVariables false
set_option maxHeartbeats 600000
open Go.RowKit

def wtF (ls:List Int) (k:Nat):Int:=ls.getD k 0

theorem wtF_at {ls:List Int} {k:Nat} {x:Int} (h:ls[k]?=some x):wtF ls k=x:=by
 unfold wtF
 rw [List.getD_eq_getElem?_getD,h]
 rfl

theorem wtF_range {ls:List Int} (h:WordsOk B64 ls) (k:Nat):0 ≤ wtF ls k ∧ wtF ls k < B64:=by
 unfold wtF
 rw [List.getD_eq_getElem?_getD]
 cases hk:ls[k]? with
 | none=>exact ⟨Int.le_refl _,by decide⟩
 | some x=>exact h x (List.mem_of_getElem? hk)

theorem asgW_range {lo hi:Nat → Int} (h0:∀ k,0 ≤ lo k ∧ lo k < B64) (h1:∀ k,0 ≤ hi k ∧ hi k < B64) (m n y:Nat):∀ k,0 ≤ asgW lo hi m n y k ∧ asgW lo hi m n y k ≤ (B64:Int) ^ k:=by
 intro k
 induction k with
 | zero=>exact ⟨by show (0:Int) ≤ 1;decide,by rw [Int.pow_zero];exact Int.le_refl 1⟩
 | succ k ih=>
  have hw:∀ c:Bool,0 ≤ (if c=true then hi (m + k) else lo (m + k)) ∧ (if c=true then hi (m + k) else lo (m + k)) ≤ B64:=fun c=>by
   cases c
   ·have:=h0 (m + k);rw [if_neg (by simp)];omega
   ·have:=h1 (m + k);rw [if_pos rfl];omega
  have e:asgW lo hi m n y (k + 1)=asgW lo hi m n y k * (if decide (y / 2 ^ (n - 1 - k) % 2=1)=true then hi (m + k) else lo (m + k)):=by
   show asgW lo hi m n y k * (if y / 2 ^ (n - 1 - k) % 2=1 then hi (m + k) else lo (m + k))=_
   by_cases hh:y / 2 ^ (n - 1 - k) % 2=1
   ·rw [if_pos hh,if_pos (decide_eq_true hh)]
   ·rw [if_neg hh,if_neg (by simpa using hh)]
  obtain ⟨w0,w1⟩:=hw (decide (y / 2 ^ (n - 1 - k) % 2=1))
  rw [e,Int.pow_succ]
  exact ⟨Int.mul_nonneg ih.1 w0,Int.mul_le_mul ih.2 w1 w0 (Int.le_trans ih.1 ih.2)⟩

theorem sumW_range {lo hi:Nat → Int} (h0:∀ k,0 ≤ lo k ∧ lo k < B64) (h1:∀ k,0 ≤ hi k ∧ hi k < B64) (m n:Nat) (ts:List Bool):∀ y,0 ≤ sumW lo hi m n ts y ∧ sumW lo hi m n ts y ≤ (y:Int) * (B64:Int) ^ n:=by
 intro y
 induction y with
 | zero=>show (0:Int) ≤ 0 ∧ (0:Int) ≤ ((0:Nat):Int) * _;rw [Int.natCast_zero,Int.zero_mul];omega
 | succ y ih=>
  have ha:=asgW_range h0 h1 m n y n
  show 0 ≤ sumW lo hi m n ts y + (if ts[y]?=some true then asgW lo hi m n y n else 0) ∧ sumW lo hi m n ts y + (if ts[y]?=some true then asgW lo hi m n y n else 0) ≤ ((y + 1:Nat):Int) * _
  rw [show ((y + 1:Nat):Int)=(y:Int) + 1 by omega,Int.add_mul,Int.one_mul]
  split <;> omega

theorem asg_digits {lo hi:Nat → Int} (h0:∀ k,0 ≤ lo k ∧ lo k < B64) (h1:∀ k,0 ≤ hi k ∧ hi k < B64) (n y k:Nat) (hk:k ≤ 100):(natW 10 (asgW lo hi 0 n y k).toNat).length ≤ 10000:=by
 have h:=asgW_range h0 h1 0 n y k
 have e:((B64 ^ k:Nat):Int)=(B64:Int) ^ k:=Int.natCast_pow _ _
 have h2:(asgW lo hi 0 n y k).toNat < B64 ^ (k + 1):=by
  have h3:B64 ^ k < B64 ^ (k + 1):=Nat.pow_lt_pow_right (by decide) (by omega)
  omega
 have:=digits_words h2
 omega

theorem sum_digits {lo hi:Nat → Int} (h0:∀ k,0 ≤ lo k ∧ lo k < B64) (h1:∀ k,0 ≤ hi k ∧ hi k < B64) (n:Nat) (ts:List Bool) (y:Nat) (hn:n ≤ 100) (hy:y ≤ 65536):(natW 10 (sumW lo hi 0 n ts y).toNat).length ≤ 10000:=by
 have h:=sumW_range h0 h1 0 n ts y
 have e:((B64 ^ n:Nat):Int)=(B64:Int) ^ n:=Int.natCast_pow _ _
 have h2:(sumW lo hi 0 n ts y).toNat < B64 ^ (n + 1):=by
  have hp:0 < B64 ^ n:=Nat.pow_pos (by decide)
  have h3:B64 ^ (n + 1)=B64 ^ n * B64:=Nat.pow_succ _ _
  have h4:B64 ^ n * 65537 ≤ B64 ^ n * B64:=Nat.mul_le_mul_left _ (by decide)
  have h5:(y:Int) * (B64:Int) ^ n ≤ 65536 * (B64:Int) ^ n:=Int.mul_le_mul_of_nonneg_right (by omega) (by omega)
  omega
 have:=digits_words h2
 omega

set_option maxRecDepth 100000 in
set_option maxHeartbeats 1600000 in
theorem rweigh_calls (B cap n:Nat) (ts:List Bool) (al ah:Option Addr) (cl ch:Nat) (ls hs:List Int) (w:World) (hB:BoolsAt w B ts) (ht:ts.length=2 ^ n) (hn:n ≤ 8) (hL:WordsAt w al ls) (hH:WordsAt w ah hs) (hl:ls.length=n) (hh:hs.length=n) :
  Calls Tryz.prog 16 #[.slice (some ⟨B,0,none⟩) ts.length cap,.slice al n cl,.slice ah n ch] w fun e w'=>DigOut w e w' (natW 10 (sumW (wtF ls) (wtF hs) 0 n ts (2 ^ n)).toNat):=by
 have r0:=wtF_range (words_ok hL)
 have r1:=wtF_range (words_ok hH)
 have hp:2 ^ n ≤ 256:=Nat.le_trans (Nat.pow_le_pow_right (by decide) hn) (by decide)
 have hDig:∀ (W:World) (x:Int) (b cp:Nat),0 ≤ x → x < 2 ^ 64 → W.cell? ⟨b,0,none⟩=some (.int .u64 x) → Calls Tryz.prog 24 #[.slice (some ⟨b,0,none⟩) 1 cp] W fun e w'=>DigOut W e w' (natW 10 x.toNat):=fun W x b cp h0 h1 hc=>by
  have q:=digits_calls (some ⟨b,0,none⟩) cp [x] W (fun i y hy=>by
   cases i with
   | zero=>simp at hy;subst hy;exact ⟨⟨h0,h1⟩,b,0,rfl,hc⟩
   | succ i=>simp at hy) (by show 1 ≤ 100;decide)
  rw [show (valW B64 [x]).toNat=x.toNat by show (x + B64 * 0).toNat=x.toNat;rw [Int.mul_zero,Int.add_zero]] at q
  exact q
 have hNil:∀ (W:World),Calls Tryz.prog 24 #[.slice none 0 0] W fun e w'=>DigOut W e w' []:=fun W=>by
  have q:=digits_calls none 0 [] W (fun i y hy=>by simp at hy) (by show 0 ≤ 100;decide)
  rw [show (valW B64 []).toNat=0 from rfl,natW_zero] at q
  exact q
 have hAs:=fun y k hk=>asg_digits r0 r1 n y k hk
 have hSm:=fun y hy=>sum_digits r0 r1 n ts y (by omega) hy
 have hA0:=fun y k=>(asgW_range r0 r1 0 n y k).1
 have hS0:=fun y=>(sumW_range r0 r1 0 n ts y).1
 obtain ⟨T,hT⟩:∃ T,T=2 ^ n:=⟨_,rfl⟩
 rw [ht]
 rw [← hT] at ht hp ⊢
 have HT:=Lib.hid ht
 have HBB:=Lib.hid hB
 have HL:=Lib.hid hL
 have HH:=Lib.hid hH
 have HLL:=Lib.hid hl
 have HHL:=Lib.hid hh
 have HDG:=Lib.hid hDig
 have HNI:=Lib.hid hNil
 have HAS:=Lib.hid hAs
 have HSM:=Lib.hid hSm
 have HA0:=Lib.hid hA0
 have HS0:=Lib.hid hS0
 have HR0:=Lib.hid r0
 have HR1:=Lib.hid r1
 clear hT ht hB hL hH hl hh hDig hNil hAs hSm hA0 hS0 r0 r1
 go_enter Tryz.func16,Tryz.ntmps16
 go_wp2_with (first
  | (go_at_call 24;refine (HNI.out _).mono ?_;rintro e w1 ⟨a1,c1,rfl,hr1,hk1⟩)
  | fail)
 go_loopg [8,9,10,11,12] T (fun gk s8 s9 s10 s11 s12 wr=>∃ (y S:Nat) (la:Option Addr) (lc:Nat),s9=.int .i64 (y:Int) ∧ s8=.slice la (natW 10 S).length lc ∧ y + gk=T ∧ (S:Int)=sumW (wtF ls) (wtF hs) 0 n ts y ∧ RowV w.heap.size wr la (natW 10 S) ∧ Keeps w wr)
 case atStart=>exact ⟨0,0,a1,c1,rfl,by rw [natW_zero];rfl,by omega,rfl,by rw [natW_zero];exact hr1,hk1⟩
 case round=>
  obtain ⟨y,S,la,lc,rfl,rfl,hyg,hS,hrow,hk⟩:=hrel
  have HS:=Lib.hid hS
  have HRW:=Lib.hid hrow
  have HYG:=Lib.hid hyg
  clear hS hrow
  by_cases hy:y < T
  ·have hSl:(natW 10 S).length ≤ 10000:=by
    have h1:=HSM.out y (by omega)
    rw [← HS.out,Int.toNat_natCast] at h1
    exact h1
   obtain ⟨b,hb⟩:∃ b,ts[y]?=some b:=⟨_,List.getElem?_eq_getElem (by rw [HT.out];exact hy)⟩
   have cb:=(HBB.out.keep (Keeps.upd hk (fun _=>False)) (fun h=>h)).cell hb
   have hbl:=lt_of_cell cb
   have q0:(y:Int) < (T:Int):=by omega
   have HBY:=Lib.hid hb
   clear hb
   cases b with
   | false=>
    have hsum:(S:Int)=sumW (wtF ls) (wtF hs) 0 n ts (y + 1):=by
     show (S:Int)=sumW (wtF ls) (wtF hs) 0 n ts y + (if ts[y]?=some true then _ else 0)
     rw [HBY.out,if_neg (by simp),Int.add_zero]
     exact HS.out
    have HSU:=Lib.hid hsum
    clear hsum hyg
    go_wp2_with fail
    go_roundg (gk - 1)
    case rel=>exact ⟨y + 1,S,la,lc,congrArg (Value.int .i64) (by omega),rfl,by have:=HYG.out;omega,HSU.out,HRW.out,hk⟩
    case measure=>have:=HYG.out;omega
   | true=>
    obtain ⟨G,hG⟩:∃ G,G=gk:=⟨_,rfl⟩
    rw [← hG] at HYG
    have HGG:=Lib.hid hG
    clear hyg hG
    go_wp2_with (first
     | (go_at_call 24;refine (HDG.out _ 1 _ _ (by omega) (by decide) (by simp [go_sem])).mono ?_;rintro e w2 ⟨a2,c2,rfl,hr2,hk2⟩)
     | fail)
    have hk2':Keeps w w2:=(hk.alloc _).trans hk2
    have hks:=hk.size
    have hr2':RowV w.heap.size w2 a2 (natW 10 1):=fun hne=>by
     obtain ⟨g,e1,e2,e3⟩:=hr2 hne
     rw [World.size_alloc] at e2
     exact ⟨g,e1,by omega,e3⟩
    have HRW2:=Lib.hid (show RowV w.heap.size w2 la (natW 10 S) from (HRW.out.keeps ((Keeps.refl wr).alloc _)).keeps hk2)
    have HR2:=Lib.hid hr2'
    clear hr2 hr2' hk2
    go_loopg [10,11,12] n (fun gk2 s10 s11 s12 wr2=>∃ (k P:Nat) (lb:Option Addr) (lc2:Nat),s11=.int .i64 (k:Int) ∧ s10=.slice lb (natW 10 P).length lc2 ∧ k + gk2=n ∧ (P:Int)=asgW (wtF ls) (wtF hs) 0 n y k ∧ RowV w.heap.size wr2 lb (natW 10 P) ∧ Keeps w wr2 ∧ RowV w.heap.size wr2 la (natW 10 S))
    case atStart=>exact ⟨0,1,a2,c2,rfl,rfl,by omega,rfl,HR2.out,hk2',HRW2.out⟩
    case round=>
     obtain ⟨k,P,lb,lc2,rfl,rfl,hkg,hP,hrow2,hk3,hrowS⟩:=hrel
     have HP:=Lib.hid hP
     have HRW3:=Lib.hid hrow2
     have HRS:=Lib.hid hrowS
     have HKG:=Lib.hid hkg
     have hPl:(natW 10 P).length ≤ 10000:=by
      have h1:=HAS.out y k (by omega)
      rw [← HP.out,Int.toNat_natCast] at h1
      exact h1
     clear hP hrow2 hrowS
     by_cases hkn:k < n
     ·obtain ⟨p,b1,o1,hp,hp0,hp1,ha1,hcp⟩:=word_at (HL.out.keeps hk3) k (by rw [HLL.out];exact hkn)
      obtain ⟨q,b2,o2,hq,hq0,hq1,ha2,hcq⟩:=word_at (HH.out.keeps hk3) k (by rw [HHL.out];exact hkn)
      subst ha1
      subst ha2
      have hb1:=lt_of_cell hcp
      have hb2:=lt_of_cell hcq
      have q2:(k:Int) < (n:Int):=by omega
      have hval:=fun (W:World)=>value_calls (y:Int) ((n:Int) - 1 - (k:Int)) W (by omega) (by omega) (by omega) (by omega)
      have hbit:bitB (y:Int) ((n:Int) - 1 - (k:Int))=decide (y / 2 ^ (n - 1 - k) % 2=1):=by
       rw [show (n:Int) - 1 - (k:Int)=((n - 1 - k:Nat):Int) by omega]
       exact bitB_nat y (n - 1 - k)
      have hks3:=hk3.size
      have hpl:p.toNat < 2 ^ 64:=by omega
      have hql:q.toNat < 2 ^ 64:=by omega
      by_cases hc:y / 2 ^ (n - 1 - k) % 2=1
      ·rw [hbit,decide_eq_true hc] at hval
       have hnext:((P * q.toNat:Nat):Int)=asgW (wtF ls) (wtF hs) 0 n y (k + 1):=by
        show _=asgW (wtF ls) (wtF hs) 0 n y k * (if y / 2 ^ (n - 1 - k) % 2=1 then wtF hs (0 + k) else wtF ls (0 + k))
        rw [if_pos hc,Nat.zero_add,wtF_at hq,← HP.out,Int.natCast_mul,Int.toNat_of_nonneg hq0]
       have HNX:=Lib.hid hnext
       have HVAL:=Lib.hid hval
       have hql2:(natW 10 q.toNat).length ≤ 10000:=by
        have:=digits_words (v:=q.toNat) (k:=1) (by show q.toNat < B64 ^ 1;rw [Nat.pow_one];exact hql)
        omega
       clear hval hbit hnext hp hq hc hkg
       go_wp2_with (first
        | (go_at_call 74;refine (HVAL.out _).mono ?_;rintro e w4 ⟨rfl,rfl⟩)
        | (go_at_call 24;refine (HDG.out _ q _ _ hq0 hq1 (by simp [go_sem])).mono ?_;rintro e w5 ⟨a5,c5,rfl,hr5,hk5⟩;have HR5:=Lib.hid hr5;clear hr5)
        | (go_at_call 75;refine (dmul_calls lb a5 lc2 c5 P q.toNat _ ((HRW3.out.keeps ((Keeps.refl wr).alloc _)).keeps hk5).ints HR5.out.ints hPl hql2).mono ?_;rintro e w6 ⟨a6,c6,rfl,hr6,hk6⟩;have HR6:=Lib.hid hr6;clear hr6)
        | fail)
       go_roundg (gk - 1)
       case rel=>
        have hkk:=((hk3.alloc (.cells #[.int .u64 q] 50)).trans hk5)
        exact ⟨k + 1,P * q.toNat,a6,c6,congrArg (Value.int .i64) (by omega),rfl,by have:=HKG.out;omega,HNX.out,fun hne=>by
         obtain ⟨g,e1,e2,e3⟩:=HR6.out hne
         exact ⟨g,e1,by have:=hkk.size;omega,e3⟩,hkk.trans hk6,((HRS.out.keeps ((Keeps.refl wr).alloc _)).keeps hk5).keeps hk6⟩
       case measure=>have:=HKG.out;omega
      ·rw [hbit,decide_eq_false hc] at hval
       have hnext:((P * p.toNat:Nat):Int)=asgW (wtF ls) (wtF hs) 0 n y (k + 1):=by
        show _=asgW (wtF ls) (wtF hs) 0 n y k * (if y / 2 ^ (n - 1 - k) % 2=1 then wtF hs (0 + k) else wtF ls (0 + k))
        rw [if_neg hc,Nat.zero_add,wtF_at hp,← HP.out,Int.natCast_mul,Int.toNat_of_nonneg hp0]
       have HNX:=Lib.hid hnext
       have HVAL:=Lib.hid hval
       have hpl2:(natW 10 p.toNat).length ≤ 10000:=by
        have:=digits_words (v:=p.toNat) (k:=1) (by show p.toNat < B64 ^ 1;rw [Nat.pow_one];exact hpl)
        omega
       clear hval hbit hnext hp hq hc hkg
       go_wp2_with (first
        | (go_at_call 74;refine (HVAL.out _).mono ?_;rintro e w4 ⟨rfl,rfl⟩)
        | (go_at_call 24;refine (HDG.out _ p _ _ hp0 hp1 (by simp [go_sem])).mono ?_;rintro e w5 ⟨a5,c5,rfl,hr5,hk5⟩;have HR5:=Lib.hid hr5;clear hr5)
        | (go_at_call 75;refine (dmul_calls lb a5 lc2 c5 P p.toNat _ ((HRW3.out.keeps ((Keeps.refl wr).alloc _)).keeps hk5).ints HR5.out.ints hPl hpl2).mono ?_;rintro e w6 ⟨a6,c6,rfl,hr6,hk6⟩;have HR6:=Lib.hid hr6;clear hr6)
        | fail)
       go_roundg (gk - 1)
       case rel=>
        have hkk:=((hk3.alloc (.cells #[.int .u64 p] 50)).trans hk5)
        exact ⟨k + 1,P * p.toNat,a6,c6,congrArg (Value.int .i64) (by omega),rfl,by have:=HKG.out;omega,HNX.out,fun hne=>by
         obtain ⟨g,e1,e2,e3⟩:=HR6.out hne
         exact ⟨g,e1,by have:=hkk.size;omega,e3⟩,hkk.trans hk6,((HRS.out.keeps ((Keeps.refl wr).alloc _)).keeps hk5).keeps hk6⟩
       case measure=>have:=HKG.out;omega
     ·have hkn2:k=n:=by have:=HKG.out;omega
      have q2:¬ (k:Int) < (n:Int):=by omega
      have hsum:((S + P:Nat):Int)=sumW (wtF ls) (wtF hs) 0 n ts (y + 1):=by
       show _=sumW (wtF ls) (wtF hs) 0 n ts y + (if ts[y]?=some true then asgW (wtF ls) (wtF hs) 0 n y n else 0)
       rw [HBY.out,if_pos rfl,← HS.out,Int.natCast_add,HP.out,hkn2]
      have HSU:=Lib.hid hsum
      clear hsum hkg hkn2
      go_wp2_with (first
       | (go_at_call 76;refine (dadd_calls la lb lc lc2 S P _ HRS.out.ints HRW3.out.ints hSl hPl).mono ?_;rintro e w6 ⟨a6,c6,rfl,hr6,hk6⟩;have HR6:=Lib.hid hr6;clear hr6)
       | fail)
      go_roundg (G - 1)
      case rel=>exact ⟨y + 1,S + P,a6,c6,congrArg (Value.int .i64) (by omega),rfl,by have:=HYG.out;omega,HSU.out,fun hne=>by
       obtain ⟨g,e1,e2,e3⟩:=HR6.out hne
       exact ⟨g,e1,by have:=hk3.size;omega,e3⟩,hk3.trans hk6⟩
      case measure=>have:=HYG.out;have:=HGG.out;omega
  ·have hye:y=T:=by omega
   have q0:¬ (y:Int) < (T:Int):=by omega
   have hfin:S=(sumW (wtF ls) (wtF hs) 0 n ts T).toNat:=by rw [← hye,← HS.out,Int.toNat_natCast]
   have HFN:=Lib.hid hfin
   clear hfin hye hyg
   go_wp2_with fail
   go_ret
   rw [← HFN.out]
   exact ⟨la,lc,rfl,HRW.out,hk⟩

end Go.Proofs.YtpgcbmbnognieaaGreat
