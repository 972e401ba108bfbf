/-
  slices.Sort at uint32, part 10: partialInsertionSortOrdered.
-/
import Derived.Test.YtpgcbmbnognieaaGreatPSortB
import Derived.Sort.LotD3
namespace Go.Proofs.YtpgcbmbnognieaaGreat
set_option maxRecDepth 1000000
set_option maxHeartbeats 8000000
set_option linter.unusedSimpArgs false
set_option linter.unusedVariables false
open Go.RowKit Go.Sort

theorem sd_size (j:Nat)(d:Array Int):(shiftDown ltInt j d).size=d.size:=by
 fun_induction shiftDown ltInt j d<;>simp_all [size_swp]
theorem su_size (b j:Nat)(d:Array Int):(shiftUp ltInt b j d).size=d.size:=by
 fun_induction shiftUp ltInt b j d<;>simp_all [size_swp]
theorem fd_size (a i:Nat)(d:Array Int):(fixDown ltInt a i d).size=d.size:=by
 unfold fixDown;split
 ·exact sd_size _ _
 ·rfl
theorem fu_size (b i:Nat)(d:Array Int):(fixUp ltInt b i d).size=d.size:=by
 unfold fixUp;split
 ·exact su_size _ _ _
 ·rfl

theorem sd_go (j:Nat)(d:Array Int)(h0:0<j)(h:ltInt d[j]! d[j-1]! = true):shiftDown ltInt (j-1) (swp d j (j-1)) = shiftDown ltInt j d:=by
 obtain⟨k,rfl⟩:∃ k,j=k+1:=⟨j-1,by omega⟩
 simp only [Nat.add_sub_cancel] at h ⊢
 rw [shiftDown,if_neg (by simp [h])]
theorem sd_stop (j:Nat)(d:Array Int)(h:j = 0∨ltInt d[j]! d[j-1]! = false):shiftDown ltInt j d = d:=by
 cases j with
 | zero=>rfl
 | succ k=>
  simp only [Nat.add_sub_cancel] at h
  rw [shiftDown,if_pos (by rcases h with h|h<;>simp_all)]
theorem su_go (b j:Nat)(d:Array Int)(h0:j<b)(h:ltInt d[j]! d[j-1]! = true):shiftUp ltInt b (j+1) (swp d j (j-1)) = shiftUp ltInt b j d:=by
 rw [shiftUp.eq_1 ltInt b j,if_pos h0,if_neg (by simp [h])]
theorem su_stop (b j:Nat)(d:Array Int)(h:¬j<b∨ltInt d[j]! d[j-1]! = false):shiftUp ltInt b j d = d:=by
 rw [shiftUp]
 rcases h with h|h
 ·rw [if_neg h]
 ·by_cases h2:j<b
  ·rw [if_pos h2,if_pos (by simp [h])]
  ·rw [if_neg h2]
theorem ss_go (b i:Nat)(d:Array Int)(h0:i<b)(h:ltInt d[i]! d[i-1]! = false):scanSorted ltInt d b (i+1) = scanSorted ltInt d b i:=by
 rw [scanSorted.eq_1 ltInt d b i,if_pos (by simp [h0,h])]
theorem ss_stop (b i:Nat)(d:Array Int)(h:¬i<b∨ltInt d[i]! d[i-1]! = true):scanSorted ltInt d b i = i:=by
 rw [scanSorted,if_neg (by rcases h with h|h<;>simp [h])]

theorem pi_full (a b s i:Nat)(d:Array Int)(h:scanSorted ltInt d b i=b):partialIns ltInt a b (s+1) i d=(d,true):=by
 rw [partialIns_succ,if_pos h]
theorem pi_few (a b s i i2:Nat)(d:Array Int)(h:scanSorted ltInt d b i=i2)(h1:i2<b)(h2:b-a<50):partialIns ltInt a b (s+1) i d=(d,false):=by
 subst h
 rw [partialIns_succ,if_neg (by omega),if_pos h2]
theorem pi_next (a b s i i2:Nat)(d:Array Int)(h:scanSorted ltInt d b i=i2)(h1:i2<b)(h2:¬b-a<50):partialIns ltInt a b s i2 (fixUp ltInt b i2 (fixDown ltInt a i2 (swp d i2 (i2-1))))=partialIns ltInt a b (s+1) i d:=by
 subst h
 rw [partialIns_succ,if_neg (by omega),if_neg h2]

theorem pins_calls (blk cap len a b:Nat)(d:Array Int)(w:World)(hr:RowAt w blk cap d)(hl:d.size=len)(hab:a<b)(hb:b≤len)(hsz:len≤1048576) :
  Calls Tryz.prog 251 #[.slice (some ⟨blk,0,none⟩) len cap,.int .i64 a,.int .i64 b] w fun e w'=>
   e=.returned (.bool (partialInsertionSort ltInt d a b).2)∧SRow w w' blk cap (partialInsertionSort ltInt d a b).1:=by
 obtain⟨R,hR⟩:∃ R,partialInsertionSort ltInt d a b=R:=⟨_,rfl⟩
 have HR:Hid (R=partialIns ltInt a b 5 (a+1) d):=Lib.hid (by rw [← hR];rfl)
 rw [hR]
 clear hR
 go_enter Tryz.func251,Tryz.ntmps251
 go_wp2
 go_loopg [7,8] 6 (fun gk vi vs wr=>∃ (i s:Nat) (dk:Array Int),s<gk∧s≤5∧vi=.int .i64 (i:Int)∧vs=.int .i64 (5-(s:Int))∧a<i∧i≤b∧dk.size=len∧SRow w wr blk cap dk∧R=partialIns ltInt a b s i dk)
 case atStart=>exact⟨a+1,5,d,by omega,by omega,by go_num,rfl,by omega,by omega,hl,SRow.self hr,HR.out⟩
 case round=>
  obtain⟨i,s,dk,hgk,hs5,rfl,rfl,hai,hib,hsk,hS,hO⟩:=hrel
  have HS:=Lib.hid hS
  have HO:=Lib.hid hO
  have HK:=Lib.hid hsk
  clear hS hO hsk hr hl
  obtain⟨gko,rfl⟩:∃ x:Nat,x=gk:=⟨_,rfl⟩
  obtain⟨wo,rfl⟩:∃ x:World,x=wr:=⟨_,rfl⟩
  obtain⟨h,hh⟩:∃ h:Nat→Int,∀ t,h t=dk[t]!:=⟨fun t=>dk[t]!,fun _=>rfl⟩
  have HG:=Lib.hid hh
  clear hh
  cases s with
  | zero=>
   have e0:(5:Int)-((0:Nat):Int)=5:=rfl
   rw [e0]
   clear e0
   go_wp2
   go_ret
   rw [HO.out]
   exact⟨rfl,HS.out⟩
  | succ s=>
   have hs0:(5:Int)-((s+1:Nat):Int)<5:=by omega
   obtain⟨st,hst⟩:∃ st:Int,st=(5:Int)-((s+1:Nat):Int):=⟨_,rfl⟩
   rw [← hst] at hs0 ⊢
   have st0:0≤st:=by omega
   have HST:=Lib.hid hst
   clear hst
   go_wp2_with fail
   go_loopg [7] (b+1) (fun gu vi wr2=>∃ i':Nat,b+1-i'≤gu∧vi=.int .i64 (i':Int)∧a<i'∧i'≤b∧SRow w wr2 blk cap dk∧scanSorted ltInt dk b i'=scanSorted ltInt dk b i)
   case atStart=>exact⟨i,by omega,rfl,hai,hib,HS.out,rfl⟩
   case round=>
    obtain⟨i',hgu,rfl,hai2,hib2,hS2,hsc⟩:=hrel
    have HS2:=Lib.hid hS2
    have HSC:=Lib.hid hsc
    clear hS2 hsc
    have t1:((i':Int)-1).toNat=i'-1:=by omega
    have t2:(0:Int)≤(i':Int)-1:=by omega
    have t3:(i':Int)-1<(len:Int):=by omega
    have cp:wr.cell? ⟨blk,i'-1,none⟩=some (.int .u32 (h (i'-1))):=by rw [HG.out];exact HS2.out.row.cell (i'-1) (by rw [HK.out];omega)
    by_cases hlt:i'<b
    ·have ci:wr.cell? ⟨blk,i',none⟩=some (.int .u32 (h i')):=by rw [HG.out];exact HS2.out.row.cell i' (by rw [HK.out];omega)
     have r4:(i':Int)<(len:Int):=by omega
     have r5:(i':Int)<(b:Int):=by omega
     rcases bool_cases' (ltInt (h i') (h (i'-1))) with hb1|hb1
     ·have HN:Hid (scanSorted ltInt dk b (i'+1)=scanSorted ltInt dk b i):=Lib.hid (by rw [← HSC.out];exact ss_go b i' dk hlt (by rw [← HG.out,← HG.out];exact hb1))
      go_wp2_with fail
      go_quiet ((go_at_call 252;exact Calls.quiet_of_same (less_calls _ _ _)))
      go_wp2
      go_roundg (gk-1)
      case rel=>exact⟨i'+1,by omega,by go_num,by omega,by omega,HS2.out.drewN nq,HN.out⟩
      case measure=>omega
     ·have HI2:Hid (scanSorted ltInt dk b i=i'):=Lib.hid (by rw [← HSC.out];exact ss_stop b i' dk (Or.inr (by rw [← HG.out,← HG.out];exact hb1)))
      have nib:¬i'=b:=by omega
      by_cases hfew:b-a<50
      ·have r9:(b:Int)-(a:Int)<50:=by omega
       go_wp2_with fail
       go_quiet ((go_at_call 252;exact Calls.quiet_of_same (less_calls _ _ _)))
       go_wp2
       go_ret
       rw [HO.out,pi_few a b s i i' dk HI2.out hlt hfew]
       exact⟨rfl,HS2.out.drewN _⟩
      ·have r9:¬(b:Int)-(a:Int)<50:=by omega
       have fi:wr.frozen? ⟨blk,i',none⟩=false:=HS2.out.row.frozen i'
       have fp:wr.frozen? ⟨blk,i'-1,none⟩=false:=HS2.out.row.frozen (i'-1)
       have HSw:=fun n=>HS2.out.swap n i' (i'-1) (by rw [HK.out];omega) (by rw [HK.out];omega)
       rw [← HG.out,← HG.out] at HSw
       have HSW:=Lib.hid HSw
       have HE:Hid (R=partialIns ltInt a b s i' (fixUp ltInt b i' (fixDown ltInt a i' (swp dk i' (i'-1))))):=Lib.hid (by rw [pi_next a b s i i' dk HI2.out hlt hfew];exact HO.out)
       clear HSw
       have n1:¬i'-1=i':=by omega
       have n2:¬i'=i'-1:=by omega
       go_wp2_with fail
       go_quiet ((go_at_call 252;exact Calls.quiet_of_same (less_calls _ _ _)))
       go_wp2
       go_region
       obtain⟨w3,hw3⟩:∃ x,x=((wr.drewN (nq+1)).setCell ⟨blk,i',none⟩ (.int .u32 (h (i'-1)))).setCell ⟨blk,i'-1,none⟩ (.int .u32 (h i')):=⟨_,rfl⟩
       have HS3:Hid (SRow w w3 blk cap (swp dk i' (i'-1))):=Lib.hid (by rw [hw3];exact HSW.out (nq+1))
       rw [← hw3]
       have HK3:Hid ((swp dk i' (i'-1)).size=len):=Lib.hid (by rw [size_swp];exact HK.out)
       obtain⟨d3,hd3⟩:∃ x,x=swp dk i' (i'-1):=⟨_,rfl⟩
       rw [← hd3] at HS3 HE HK3
       have HGO:Hid (i'<b∧¬b-a<50):=Lib.hid ⟨hlt,hfew⟩
       clear hw3 hd3 ci cp fi fp n1 n2 t1 t2 t3 nib hb1 HI2 HSC r9 r5
       go_upto_if 61 with fail
       go_cut [] (fun wx=>SRow w wx blk cap (fixDown ltInt a i' d3))
       case first=>
        by_cases h2:i'-a≥2
        ·have r5:(2:Int)≤(i':Int)-(a:Int):=by omega
         have HF:Hid (fixDown ltInt a i' d3=shiftDown ltInt (i'-1) d3):=Lib.hid (by unfold fixDown;rw [if_pos h2])
         go_wp2_with fail
         go_loopg [9] (i'+1) (fun gu vj wr2=>∃ (j:Nat) (dj:Array Int),j<gu∧vj=.int .i64 (j:Int)∧j<i'∧dj.size=len∧SRow w wr2 blk cap dj∧shiftDown ltInt j dj=shiftDown ltInt (i'-1) d3)
         case atStart=>exact⟨i'-1,d3,by omega,by congr 1;omega,by omega,HK3.out,HS3.out,rfl⟩
         case round=>
          obtain⟨j,dj,hgu3,rfl,hji,hsj,hSj,hE⟩:=hrel
          have HSj:=Lib.hid hSj
          have HEj:=Lib.hid hE
          have HKj:=Lib.hid hsj
          clear hSj hE hsj
          by_cases hj1:j=0
          ·subst hj1
           have HX:Hid (fixDown ltInt a i' d3=dj):=Lib.hid (by rw [HF.out,← HEj.out];rfl)
           go_wp2_with fail
           go_meet
           case rel=>rw [HX.out];exact HSj.out
          ·have r6:(1:Int)≤(j:Int):=by omega
           have t1:((j:Int)-1).toNat=j-1:=by omega
           have t2:(0:Int)≤(j:Int)-1:=by omega
           have t3:(j:Int)-1<(len:Int):=by omega
           have t4:(j:Int)<(len:Int):=by omega
           have n1:¬j-1=j:=by omega
           have n2:¬j=j-1:=by omega
           obtain⟨g,hg⟩:∃ g:Nat→Int,∀ t,g t=dj[t]!:=⟨fun t=>dj[t]!,fun _=>rfl⟩
           have HGj:=Lib.hid hg
           clear hg
           have cj:wr.cell? ⟨blk,j,none⟩=some (.int .u32 (g j)):=by rw [HGj.out];exact HSj.out.row.cell j (by rw [HKj.out];omega)
           have cp:wr.cell? ⟨blk,j-1,none⟩=some (.int .u32 (g (j-1))):=by rw [HGj.out];exact HSj.out.row.cell (j-1) (by rw [HKj.out];omega)
           have fj:wr.frozen? ⟨blk,j,none⟩=false:=HSj.out.row.frozen j
           have fp:wr.frozen? ⟨blk,j-1,none⟩=false:=HSj.out.row.frozen (j-1)
           rcases bool_cases' (ltInt (g j) (g (j-1))) with hb2|hb2
           ·have HX:Hid (fixDown ltInt a i' d3=dj):=Lib.hid (by rw [HF.out,← HEj.out];exact sd_stop j dj (Or.inr (by rw [← HGj.out,← HGj.out];exact hb2)))
            go_wp2_with fail
            go_quiet ((go_at_call 252;exact Calls.quiet_of_same (less_calls _ _ _)))
            go_wp2_with fail
            go_meet
            case rel=>rw [HX.out];exact HSj.out.drewN nq
           ·have HSw:=fun n=>HSj.out.swap n j (j-1) (by rw [HKj.out];omega) (by rw [HKj.out];omega)
            rw [← HGj.out,← HGj.out] at HSw
            have HSWj:=Lib.hid HSw
            have HN:Hid (shiftDown ltInt (j-1) (swp dj j (j-1))=shiftDown ltInt (i'-1) d3):=Lib.hid (by rw [← HEj.out];exact sd_go j dj (by omega) (by rw [← HGj.out,← HGj.out];exact hb2))
            clear HSw
            go_wp2_with fail
            go_quiet ((go_at_call 252;exact Calls.quiet_of_same (less_calls _ _ _)))
            go_wp2
            go_region
            all_goals go_wp2
            go_roundg (gk-1)
            case rel=>exact⟨j-1,_,by omega,by congr 1;omega,by omega,by rw [size_swp];exact HKj.out,HSWj.out (nq+1),HN.out⟩
            case measure=>omega
        ·have r5:¬(2:Int)≤(i':Int)-(a:Int):=by omega
         have HX:Hid (fixDown ltInt a i' d3=d3):=Lib.hid (by unfold fixDown;rw [if_neg h2])
         go_wp2_with fail
         go_meet
         case rel=>rw [HX.out];exact HS3.out
       case rest=>
        have HS4:=Lib.hid hcut
        have HK4:Hid ((fixDown ltInt a i' d3).size=len):=Lib.hid (by rw [fd_size];exact HK3.out)
        obtain⟨d4,hd4⟩:∃ x,x=fixDown ltInt a i' d3:=⟨_,rfl⟩
        rw [← hd4] at HS4 HE HK4
        clear hcut hd4 HS3 HK3
        go_upto_if 98 with fail
        by_cases h2:b-i'≥2
        ·have r5:(2:Int)≤(b:Int)-(i':Int):=by omega
         have HF:Hid (fixUp ltInt b i' d4=shiftUp ltInt b (i'+1) d4):=Lib.hid (by unfold fixUp;rw [if_pos h2])
         go_wp2_with fail
         go_loopg [10] (b+1) (fun gu vj wr2=>∃ (j:Nat) (dj:Array Int),b+1-j≤gu∧vj=.int .i64 (j:Int)∧i'<j∧j≤b∧dj.size=len∧SRow w wr2 blk cap dj∧shiftUp ltInt b j dj=shiftUp ltInt b (i'+1) d4)
         case atStart=>exact⟨i'+1,d4,by omega,by go_num,by omega,by omega,HK4.out,HS4.out,rfl⟩
         case round=>
          obtain⟨j,dj,hgu3,rfl,hji,hjb,hsj,hSj,hE⟩:=hrel
          have HSj:=Lib.hid hSj
          have HEj:=Lib.hid hE
          have HKj:=Lib.hid hsj
          clear hSj hE hsj
          by_cases hj1:¬j<b
          ·have HX:Hid (fixUp ltInt b i' d4=dj):=Lib.hid (by rw [HF.out,← HEj.out];exact su_stop b j dj (Or.inl hj1))
           have r6:¬(j:Int)<(b:Int):=by omega
           go_wp2_with fail
           have HK5:Hid ((fixUp ltInt b i' d4).size=len):=Lib.hid (by rw [fu_size];exact HK4.out)
           go_roundg (gko-1)
           case rel=>exact⟨i',s,_,by omega,by omega,rfl,by have:=HST.out;congr 1;omega,hai2,hib2,HK5.out,by rw [HX.out];exact HSj.out,HE.out⟩
           case measure=>omega

          ·have r6:(j:Int)<(b:Int):=by omega
           have t1:((j:Int)-1).toNat=j-1:=by omega
           have t2:(0:Int)≤(j:Int)-1:=by omega
           have t3:(j:Int)-1<(len:Int):=by omega
           have t4:(j:Int)<(len:Int):=by omega
           have n1:¬j-1=j:=by omega
           have n2:¬j=j-1:=by omega
           obtain⟨g,hg⟩:∃ g:Nat→Int,∀ t,g t=dj[t]!:=⟨fun t=>dj[t]!,fun _=>rfl⟩
           have HGj:=Lib.hid hg
           clear hg
           have cj:wr.cell? ⟨blk,j,none⟩=some (.int .u32 (g j)):=by rw [HGj.out];exact HSj.out.row.cell j (by rw [HKj.out];omega)
           have cp:wr.cell? ⟨blk,j-1,none⟩=some (.int .u32 (g (j-1))):=by rw [HGj.out];exact HSj.out.row.cell (j-1) (by rw [HKj.out];omega)
           have fj:wr.frozen? ⟨blk,j,none⟩=false:=HSj.out.row.frozen j
           have fp:wr.frozen? ⟨blk,j-1,none⟩=false:=HSj.out.row.frozen (j-1)
           rcases bool_cases' (ltInt (g j) (g (j-1))) with hb2|hb2
           ·have HX:Hid (fixUp ltInt b i' d4=dj):=Lib.hid (by rw [HF.out,← HEj.out];exact su_stop b j dj (Or.inr (by rw [← HGj.out,← HGj.out];exact hb2)))
            go_wp2_with fail
            go_quiet ((go_at_call 252;exact Calls.quiet_of_same (less_calls _ _ _)))
            go_wp2_with fail
            have HK5:Hid ((fixUp ltInt b i' d4).size=len):=Lib.hid (by rw [fu_size];exact HK4.out)
            go_roundg (gko-1)
            case rel=>exact⟨i',s,_,by omega,by omega,rfl,by have:=HST.out;congr 1;omega,hai2,hib2,HK5.out,by rw [HX.out];exact HSj.out.drewN nq,HE.out⟩
            case measure=>omega

           ·have HSw:=fun n=>HSj.out.swap n j (j-1) (by rw [HKj.out];omega) (by rw [HKj.out];omega)
            rw [← HGj.out,← HGj.out] at HSw
            have HSWj:=Lib.hid HSw
            have HN:Hid (shiftUp ltInt b (j+1) (swp dj j (j-1))=shiftUp ltInt b (i'+1) d4):=Lib.hid (by rw [← HEj.out];exact su_go b j dj (by omega) (by rw [← HGj.out,← HGj.out];exact hb2))
            clear HSw
            go_wp2_with fail
            go_quiet ((go_at_call 252;exact Calls.quiet_of_same (less_calls _ _ _)))
            go_wp2
            go_region
            all_goals go_wp2
            go_roundg (gk-1)
            case rel=>exact⟨j+1,_,by omega,by go_num,by omega,by omega,by rw [size_swp];exact HKj.out,HSWj.out (nq+1),HN.out⟩
            case measure=>omega
        ·have r5:¬(2:Int)≤(b:Int)-(i':Int):=by omega
         have HX:Hid (fixUp ltInt b i' d4=d4):=Lib.hid (by unfold fixUp;rw [if_neg h2])
         go_wp2_with fail
         have HK5:Hid ((fixUp ltInt b i' d4).size=len):=Lib.hid (by rw [fu_size];exact HK4.out)
         go_roundg (gko-1)
         case rel=>exact⟨i',s,_,by omega,by omega,rfl,by have:=HST.out;congr 1;omega,hai2,hib2,HK5.out,by rw [HX.out];exact HS4.out,HE.out⟩
         case measure=>omega

    ·have HI2:Hid (scanSorted ltInt dk b i=b):=Lib.hid (by have e:i'=b:=(by omega);rw [← HSC.out,ss_stop b i' dk (Or.inl hlt)];exact e)
     have r5:decide ((i':Int)<(b:Int))=false:=decide_eq_false (by omega)
     have eb:i'=b:=by omega
     subst eb
     go_wp2_with fail
     go_quiet ((go_at_call 252;exact Calls.quiet_of_same (less_calls _ _ _)))
     go_wp2
     go_ret
     rw [HO.out,pi_full a i' s i dk HI2.out]
     exact⟨rfl,HS2.out.drewN _⟩

def Leaves (a b a' b':Nat)(d dk:Array Int):Prop:=
 ∀ R,PermIn a' b' dk R→SortedIn ltInt a' b' R→PermIn a b d R∧SortedIn ltInt a b R

theorem Leaves.refl (a b:Nat)(d:Array Int):Leaves a b a b d d:=fun _ h1 h2=>⟨h1,h2⟩

theorem Leaves.perm {a b a' b':Nat}{d dk d2:Array Int}(h:Leaves a b a' b' d dk)(hp:PermIn a' b' dk d2):Leaves a b a' b' d d2:=
 fun R h1 h2=>h R (permIn_trans _ _ _ _ _ hp h1) h2

theorem SRow.keeps {w w1 w2:World}{blk cap:Nat}{d:Array Int}(h:SRow w w1 blk cap d)(hk:Keeps w1 w2):SRow w w2 blk cap d:=h.trans ⟨Keeps.upd hk _,h.row.keep (Keeps.upd hk (fun _=>False)) (fun h=>h)⟩

theorem pdq_calls (blk cap len:Nat)(hsz:len≤1048576):∀ (N a b lim:Nat) (d:Array Int) (w:World),b-a<N→RowAt w blk cap d→d.size=len→a≤b→b≤len→lim≤64→Below ltInt a b d →
  Calls Tryz.prog 201 #[.slice (some ⟨blk,0,none⟩) len cap,.int .i64 a,.int .i64 b,.int .i64 lim] w fun e w'=>
   e=.returned (.tuple #[])∧∃ d',PermIn a b d d'∧SortedIn ltInt a b d'∧SRow w w' blk cap d':=by
 intro N
 induction N with
 | zero=>intro _ _ _ _ _ h;exact absurd h (Nat.not_lt_zero _)
 | succ N ih=>
  intro a b lim d w hN hr hl hab hb hlim hbel
  have HR:=Lib.hid hr
  have HL:=Lib.hid hl
  have HB:=Lib.hid hbel
  have IH:=Lib.hid ih
  clear hr hl hbel ih
  go_enter Tryz.func201,Tryz.ntmps201
  go_wp2
  go_loopg [1,2,3,8,9] (b-a+1) (fun gk s1 s2 s3 s8 s9 wr=>∃ (a' b' lm:Nat) (wb wp:Bool) (dk:Array Int),s1=.int .i64 (a':Int)∧s2=.int .i64 (b':Int)∧s3=.int .i64 (lm:Int)∧s8=.bool wb∧s9=.bool wp ∧
   a'≤b'∧b'≤len∧b'-a'<gk∧gk≤b-a+1∧lm≤64∧dk.size=len∧Below ltInt a' b' dk∧SRow w wr blk cap dk∧Leaves a b a' b' d dk)
  case atStart=>exact⟨a,b,lim,true,true,d,rfl,rfl,rfl,rfl,rfl,hab,hb,by omega,by omega,hlim,HL.out,HB.out,SRow.self HR.out,Leaves.refl _ _ _⟩
  case round=>
   obtain⟨a',b',lm,wb,wp,dk,rfl,rfl,rfl,rfl,rfl,hab',hb',hgk,hgk2,hlm,hsk,hB,hS,hLv⟩:=hrel
   have HK:=Lib.hid hsk
   have HBk:=Lib.hid hB
   have HS:=Lib.hid hS
   have HLv:=Lib.hid hLv
   clear hsk hB hS hLv
   by_cases h12:b'-a'≤12
   ·have r1:(b':Int)-(a':Int)≤12:=by omega
    have HC:=Lib.hid (insertion_calls blk cap len a' b' dk wr HS.out.row HK.out hab' hb' hsz)
    have HX:=Lib.hid (insertionSort_holds swo_ltInt dk a' b' hab' (by rw [HK.out];exact hb'))
    go_wp2_with fail
    refine HC.out.mono ?_
    rintro e w2 ⟨rfl,hS2⟩
    have HS2:=Lib.hid (HS.out.trans hS2)
    clear hS2
    go_wp2
    first|go_end0|refine bodyPost_ret (results_none rfl _ _ _) rfl ?_
    exact⟨rfl,_,(HLv.out _ HX.out.1 HX.out.2).1,(HLv.out _ HX.out.1 HX.out.2).2,HS2.out⟩
   ·have r1:¬(b':Int)-(a':Int)≤12:=by omega
    by_cases hl0:lm=0
    ·subst hl0
     have HC:=Lib.hid (heap_calls blk cap len a' b' dk wr HS.out.row HK.out (by omega) hb' hsz)
     have HX:=Lib.hid (heapSort_holds swo_ltInt dk a' b' hab' (by rw [HK.out];exact hb'))
     go_wp2_with fail
     refine HC.out.mono ?_
     rintro e w2 ⟨rfl,hS2⟩
     have HS2:=Lib.hid (HS.out.trans hS2)
     clear hS2
     go_wp2
     first|go_end0|refine bodyPost_ret (results_none rfl _ _ _) rfl ?_
     exact⟨rfl,_,(HLv.out _ HX.out.1 HX.out.2).1,(HLv.out _ HX.out.1 HX.out.2).2,HS2.out⟩
    ·have r2:¬(lm:Int)=0:=by omega
     go_upto_if 35 with fail
     go_cut [3] (fun s3 wx=>∃ (lm2:Nat) (d1:Array Int),s3=.int .i64 (lm2:Int)∧lm2≤64∧PermIn a' b' dk d1∧SRow w wx blk cap d1)
     case first=>
      cases wb
      ·have HC:=Lib.hid (break_calls blk cap len a' b' dk wr HS.out.row HK.out (by omega) hb' hsz)
       go_wp2_with fail
       refine HC.out.mono ?_
       rintro e w2 ⟨rfl,d1,hp1,hS2⟩
       have HP1:=Lib.hid hp1
       have HS2:=Lib.hid (HS.out.trans hS2)
       clear hS2 hp1
       go_wp2_with fail
       go_meet
       case rel=>exact⟨lm-1,d1,by congr 1;omega,by omega,HP1.out,HS2.out⟩
      ·go_wp2_with fail
       go_meet
       case rel=>exact⟨lm,dk,rfl,hlm,permIn_refl _ _ _,HS.out⟩
     case rest=>
      obtain⟨lm2,d1,rfl,hlm2,hp1,hS1⟩:=hcut
      have HP1:=Lib.hid hp1
      have HS1:=Lib.hid hS1
      have HK1:Hid (d1.size=len):=Lib.hid (hp1.1.trans HK.out)
      clear hp1 hS1
      have HC:=Lib.hid (choose_calls blk cap len a' b' d1 wc HS1.out.row HK1.out (by omega) hb' hsz)
      go_upto_if 50 with fail
      refine HC.out.mono ?_
      rintro e w2 ⟨p,h,rfl,hp0,hp1,hh,hKe⟩
      have HS2:Hid (SRow w w2 blk cap d1):=Lib.hid (HS1.out.keeps hKe)
      clear hKe
      go_upto_if 50 with fail
      go_cut [11,12] (fun s11 s12 wx=>∃ (p:Nat) (h:Int) (d2:Array Int),s11=.int .i64 (p:Int)∧s12=.int .i64 h∧a'≤p∧p<b'∧PermIn a' b' dk d2∧SRow w wx blk cap d2)
      case first=>
       by_cases h2:h=2
       ·subst h2
        have HC2:=Lib.hid (reverse_calls blk cap len a' b' d1 w2 HS2.out.row HK1.out (by omega) hb' hsz)
        go_wp2_with fail
        refine HC2.out.mono ?_
        rintro e w3 ⟨rfl,d2,hq,hS3⟩
        have HQ:=Lib.hid (permIn_trans _ _ _ _ _ HP1.out hq)
        have HS3:=Lib.hid (HS2.out.trans hS3)
        clear hq hS3
        go_wp2_with fail
        go_meet
        case rel=>exact⟨b'-1-(p-a'),1,d2,by congr 1;omega,rfl,by omega,by omega,HQ.out,HS3.out⟩
       ·go_wp2_with fail
        go_meet
        case rel=>exact⟨p,h,d1,rfl,rfl,hp0,hp1,HP1.out,HS2.out⟩
      case rest=>
       obtain⟨p,h,d2,rfl,rfl,hp0,hp1,hp2,hS2⟩:=hcut
       have HP2:=Lib.hid hp2
       have HS3:=Lib.hid hS2
       have HK2:Hid (d2.size=len):=Lib.hid (hp2.1.trans HK.out)
       clear hp2 hS2
       go_upto_region 15 with fail
       go_cut [68] (fun s68 wx=>∃ c:Bool,s68=.bool c∧SRow w wx blk cap d2)
       case first=>
        cases wb<;>cases wp<;>by_cases h1:h=1 <;>
         (go_wp2_with fail
          go_meet
          exact⟨_,rfl,HS3.out⟩)
       case rest=>
        obtain⟨c,rfl,hS4⟩:=hcut
        have HS4:=Lib.hid hS4
        clear hS4
        go_upto_if 68 with fail
        go_cut [] (fun wx=>∃ d3:Array Int,PermIn a' b' dk d3∧SRow w wx blk cap d3)
        case first=>
         cases c
         ·go_wp2_with fail
          go_meet
          case rel=>exact⟨d2,HP2.out,HS4.out⟩
         ·have HC3:=Lib.hid (pins_calls blk cap len a' b' d2 wc HS4.out.row HK2.out (by omega) hb' hsz)
          have HX:=Lib.hid (partialInsertionSort_holds swo_ltInt d2 a' b' (by omega) (by rw [HK2.out];exact hb') (Below.perm HBk.out (by rw [HK.out];exact hb') HP2.out))
          obtain⟨R,hR⟩:∃ R,R=partialInsertionSort ltInt d2 a' b':=⟨_,rfl⟩
          rw [← hR] at HC3 HX
          clear hR
          obtain⟨d3,f⟩:=R
          cases f
          ·go_wp2_with fail
           refine HC3.out.mono ?_
           rintro e w3 ⟨rfl,hS5⟩
           have HS5:=Lib.hid (HS4.out.trans hS5)
           clear hS5
           go_wp2_with fail
           go_meet
           case rel=>exact⟨d3,permIn_trans _ _ _ _ _ HP2.out HX.out.1,HS5.out⟩
          ·go_wp2_with fail
           refine HC3.out.mono ?_
           rintro e w3 ⟨rfl,hS5⟩
           have HS5:=Lib.hid (HS4.out.trans hS5)
           clear hS5
           have HZ:=Lib.hid (HLv.out d3 (permIn_trans _ _ _ _ _ HP2.out HX.out.1) (HX.out.2 (by trivial)))
           go_wp2
           first|go_end0|refine bodyPost_ret (results_none rfl _ _ _) rfl ?_
           exact⟨rfl,d3,HZ.out.1,HZ.out.2,HS5.out⟩
        case rest=>
         obtain⟨d3,hp3,hS5⟩:=hcut
         have HP3:=Lib.hid hp3
         have HS5:=Lib.hid hS5
         have HK3:Hid (d3.size=len):=Lib.hid (hp3.1.trans HK.out)
         have HB3:Hid (Go.Sort.Below ltInt a' b' d3):=Lib.hid (Below.perm HBk.out (by rw [HK.out];exact hb') hp3)
         have HL3:Hid (Leaves a b a' b' d d3):=Lib.hid (HLv.out.perm hp3)
         clear hp3 hS5 HP1 HP2 HS1 HS2 HS3 HS4 HK1 HK2 HC HS
         obtain⟨g,hg⟩:∃ g:Nat→Int,∀ t,g t=d3[t]!:=⟨fun t=>d3[t]!,fun _=>rfl⟩
         have HG:=Lib.hid hg
         clear hg
         go_upto_region 17 with fail
         go_cut [87] (fun s87 wx=>∃ B:Bool,s87=.bool B∧(B=true→0<a'∧ltInt (g (a'-1)) (g p)=false)∧SRow w wx blk cap d3)
         case first=>
          have cp:wc.cell? ⟨blk,p,none⟩=some (.int .u32 (g p)):=by rw [HG.out];exact HS5.out.row.cell p (by rw [HK3.out];omega)
          have r4:(p:Int)<(len:Int):=by omega
          rcases Nat.eq_zero_or_pos a' with ha0|ha0
          ·subst ha0
           go_big_quiet (first|(go_at_call 252;exact Calls.quiet_of_same (less_calls _ _ _)))
           go_wp2_with fail
           go_meet
           case rel=>exact⟨false,rfl,(fun h=>by cases h),HS5.out.drewN nq⟩
          ·have r5:(a':Int) > 0:=by omega
           have t1:((a':Int)-1).toNat=a'-1:=by omega
           have t2:(0:Int)≤(a':Int)-1:=by omega
           have t3:(a':Int)-1<(len:Int):=by omega
           have ca:wc.cell? ⟨blk,a'-1,none⟩=some (.int .u32 (g (a'-1))):=by rw [HG.out];exact HS5.out.row.cell (a'-1) (by rw [HK3.out];omega)
           rcases bool_cases' (ltInt (g (a'-1)) (g p)) with hb1|hb1
           ·go_big_quiet (first|(go_at_call 252;exact Calls.quiet_of_same (less_calls _ _ _)))
            go_wp2_with fail
            go_meet
            case rel=>exact⟨true,rfl,(fun _=>⟨by omega,hb1⟩),HS5.out.drewN nq⟩
           ·go_big_quiet (first|(go_at_call 252;exact Calls.quiet_of_same (less_calls _ _ _)))
            go_wp2_with fail
            go_meet
            case rel=>exact⟨false,rfl,(fun h=>by cases h),HS5.out.drewN nq⟩
         case rest=>
          obtain⟨B,rfl,hBt,hS6⟩:=hcut
          have HS6:=Lib.hid hS6
          have HBt:=Lib.hid hBt
          clear hS6 hBt HS5
          cases B
          ·obtain⟨mid,hmid⟩:∃ x,x=(partition ltInt d3 a' b' p).1:=⟨_,rfl⟩
           obtain⟨ap,hap⟩:∃ x,x=(partition ltInt d3 a' b' p).2.1:=⟨_,rfl⟩
           obtain⟨d4,hd4⟩:∃ x,x=(partition ltInt d3 a' b' p).2.2:=⟨_,rfl⟩
           have HX:=round_part (d4:=d4) (mid:=mid) (ap:=ap) swo_ltInt (partition_holds ltInt) hp0 hp1 (by rw [HK3.out];exact hb') HB3.out (by rw [hmid,hap,hd4])
           obtain⟨m1,m2,hsz4,hBl,hBr,hLf,hRt⟩:=HX
           have HC4:=part_calls blk cap len a' b' p d3 wc HS6.out.row HK3.out hp0 hp1 hb' hsz
           rw [← hmid,← hap,← hd4] at HC4
           have HC4:=Lib.hid HC4
           have HK4:Hid (d4.size=len):=Lib.hid (hsz4.trans HK3.out)
           have HBl:=Lib.hid hBl
           have HBr:=Lib.hid hBr
           have HLf:=Lib.hid hLf
           have HRt:=Lib.hid hRt
           clear hmid hap hd4 hsz4 hBl hBr hLf hRt
           go_upto_if 113 with fail
           refine HC4.out.mono ?_
           rintro e w4 ⟨rfl,hS7⟩
           have HS7:=Lib.hid (HS6.out.trans hS7)
           clear hS7
           go_upto_if 113 with fail
           by_cases h4:mid-a'<b'-mid
           ·have h4z:(mid:Int)-(a':Int)<(b':Int)-(mid:Int):=by omega
            have HI:=Lib.hid (IH.out a' mid lm2 d4 w4 (by omega) HS7.out.row HK4.out (by omega) (by omega) hlm2 HBl.out)
            go_wp2_with fail
            refine HI.out.mono ?_
            rintro e w5 ⟨rfl,d5,hp5,hs5,hS8⟩
            have HK5:Hid (d5.size=len):=Lib.hid (hp5.1.trans HK4.out)
            have HLF:=Lib.hid (HLf.out d5 hp5 hs5)
            have HS8:=Lib.hid (HS7.out.trans hS8)
            have HL5:Hid (Leaves a b (mid+1) b' d d5):=Lib.hid (fun R h1 h2=>HL3.out R (HLF.out.2 R h1 h2).1 (HLF.out.2 R h1 h2).2)
            clear hp5 hs5 hS8
            go_wp2_with fail
            go_roundg (gk-1)
            case rel=>exact⟨mid+1,b',lm2,_,ap,d5,rfl,rfl,rfl,rfl,rfl,by omega,hb',by omega,by omega,hlm2,HK5.out,HLF.out.1,HS8.out,HL5.out⟩
            case measure=>omega
           ·have h4z:¬((mid:Int)-(a':Int)<(b':Int)-(mid:Int)):=by omega
            have HI:=Lib.hid (IH.out (mid+1) b' lm2 d4 w4 (by omega) HS7.out.row HK4.out (by omega) (by omega) hlm2 HBr.out)
            go_wp2_with fail
            refine HI.out.mono ?_
            rintro e w5 ⟨rfl,d5,hp5,hs5,hS8⟩
            have HK5:Hid (d5.size=len):=Lib.hid (hp5.1.trans HK4.out)
            have HLF:=Lib.hid (HRt.out d5 hp5 hs5)
            have HS8:=Lib.hid (HS7.out.trans hS8)
            have HL5:Hid (Leaves a b a' mid d d5):=Lib.hid (fun R h1 h2=>HL3.out R (HLF.out.2 R h1 h2).1 (HLF.out.2 R h1 h2).2)
            clear hp5 hs5 hS8
            go_wp2_with fail
            go_roundg (gk-1)
            case rel=>exact⟨a',mid,lm2,_,ap,d5,rfl,rfl,rfl,rfl,rfl,by omega,by omega,by omega,by omega,hlm2,HK5.out,HLF.out.1,HS8.out,HL5.out⟩
            case measure=>omega
          ·obtain⟨ha0,hnl⟩:=HBt.out rfl
           obtain⟨mid,hmid⟩:∃ x,x=(partitionEqual ltInt d3 a' b' p).1:=⟨_,rfl⟩
           obtain⟨d4,hd4⟩:∃ x,x=(partitionEqual ltInt d3 a' b' p).2:=⟨_,rfl⟩
           have HX:=round_eq (d4:=d4) (mid:=mid) swo_ltInt (partitionEqual_holds ltInt) ha0 hp0 hp1 (by rw [HK3.out];exact hb') HB3.out (by rw [← HG.out,← HG.out];exact hnl) (by rw [hmid,hd4])
           obtain⟨m1,m2,hsz4,hB4,hLL⟩:=HX
           have HC4:=peq_calls blk cap len a' b' p d3 wc HS6.out.row HK3.out hp0 hp1 hb' hsz
           rw [← hmid,← hd4] at HC4
           have HC4:=Lib.hid HC4
           have HK4:Hid (d4.size=len):=Lib.hid (hsz4.trans HK3.out)
           have HB4:=Lib.hid hB4
           have HL4:Hid (Leaves a b mid b' d d4):=Lib.hid (fun R h1 h2=>HL3.out R (hLL R h1 h2).1 (hLL R h1 h2).2)
           clear hmid hd4 hsz4 hB4 hLL hnl
           go_wp2_with fail
           refine HC4.out.mono ?_
           rintro e w4 ⟨rfl,hS7⟩
           have HS7:=Lib.hid (HS6.out.trans hS7)
           clear hS7
           go_wp2_with fail
           go_roundg (gk-1)
           case rel=>exact⟨mid,b',lm2,wb,wp,d4,rfl,rfl,rfl,rfl,rfl,m2,hb',by omega,by omega,hlm2,HK4.out,HB4.out,HS7.out,HL4.out⟩
           case measure=>omega

theorem insertion_nil (w:World):Calls Tryz.prog 246 #[.slice none 0 0,.int .i64 0,.int .i64 0] w fun e w'=>e=.returned (.tuple #[])∧w'=w:=by
 go_enter Tryz.func246,Tryz.ntmps246
 go_wp2
 refine wp_loop_rounds 1 ?_
 rw [rounds_succ]
 go_wp2
 first|go_end0|refine bodyPost_ret (results_none rfl _ _ _) rfl ?_
 exact⟨rfl,rfl⟩

theorem pdq_nil (lim:Int)(w:World):Calls Tryz.prog 201 #[.slice none 0 0,.int .i64 0,.int .i64 0,.int .i64 lim] w fun e w'=>e=.returned (.tuple #[])∧w'=w:=by
 go_enter Tryz.func201,Tryz.ntmps201
 go_wp2
 refine wp_loop_rounds 1 ?_
 rw [rounds_succ]
 go_wp2_with (go_at_call 246;refine(insertion_nil _).mono ?_;rintro e w' ⟨rfl,rfl⟩)
 first|go_end0|refine bodyPost_ret (results_none rfl _ _ _) rfl ?_
 exact⟨rfl,rfl⟩

theorem len64_zero (w:World):Calls Tryz.prog 202 #[.int .u64 0] w fun e w'=>∃ n:Nat,n≤64∧e=.returned (.int .i64 n)∧w'=w:=by
 have HC:=Lib.hid (len64_a 0 w (by omega) (by omega))
 go_enter Tryz.func202,Tryz.ntmps202
 go_wp2_with (go_at_call 256;refine HC.out.mono ?_;rintro e w' ⟨rfl,rfl⟩)
 go_ret
 exact⟨_,by decide,rfl,rfl⟩

theorem sort_nil (w:World):Calls Tryz.prog 149 #[.slice none 0 0] w fun e w'=>e=.returned (.tuple #[])∧w'=w:=by
 go_enter Tryz.func149,Tryz.ntmps149
 go_wp2_with (first|(go_at_call 202;refine(len64_zero _).mono ?_;rintro e w' ⟨n,hn,rfl,rfl⟩)|(go_at_call 201;refine(pdq_nil _ _).mono ?_;rintro e w' ⟨rfl,rfl⟩))
 first|go_end0|refine bodyPost_ret (results_none rfl _ _ _) rfl ?_
 exact⟨rfl,rfl⟩

theorem sort_calls (blk cap len:Nat)(d:Array Int)(w:World)(hr:RowAt w blk cap d)(hl:d.size=len)(h0:0<len)(hsz:len≤1048576) :
  Calls Tryz.prog 149 #[.slice (some ⟨blk,0,none⟩) len cap] w fun e w'=>
   e=.returned (.tuple #[])∧∃ d',PermIn 0 len d d'∧SortedIn ltInt 0 len d'∧SRow w w' blk cap d':=by
 have HC:=Lib.hid (len_calls (len:Int) w (by omega) (by omega))
 have hL:=lenIs (len:Int) (by omega) (by omega)
 have HP:=Lib.hid (pdq_calls blk cap len hsz (len+1) 0 len (Lib.bitLen (len:Int).toNat) d w (by omega) hr hl (by omega) (by omega) (by have:=hL.1;omega) (.inl rfl))
 clear hr
 go_enter Tryz.func149,Tryz.ntmps149
 go_wp2_with fail
 refine HC.out.mono ?_
 rintro e w1 ⟨rfl,rfl⟩
 go_wp2_with fail
 refine HP.out.mono ?_
 rintro e w2 ⟨rfl,d',h1,h2,h3⟩
 go_wp2
 first|go_end0|refine bodyPost_ret (results_none rfl _ _ _) rfl ?_
 exact⟨rfl,d',h1,h2,h3⟩

end Go.Proofs.YtpgcbmbnognieaaGreat
