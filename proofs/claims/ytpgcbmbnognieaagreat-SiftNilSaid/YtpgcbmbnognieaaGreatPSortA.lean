/-
  slices.Sort at uint32, part 1: how the row lies, cmp.Less, insertionSortOrdered.
-/
import Derived.Test.YtpgcbmbnognieaaGreatPSFindA
import Derived.BigRegion
import Derived.CellFam
import Derived.IntWalk
namespace Go.Proofs.YtpgcbmbnognieaaGreat
set_option maxRecDepth 1000000
set_option maxHeartbeats 8000000
set_option linter.unusedSimpArgs false
set_option linter.unusedVariables false
open Go.RowKit Go.Sort

def RowAt (w:World)(blk cap:Nat)(d:Array Int):Prop:=
 ∃ cur:Array Value,w.heap[blk]?=some (.cells cur 23 (0,0))∧cur.size=cap∧d.size≤cap∧∀ t,t<d.size→cur[t]?=some (.int .u32 d[t]!)

structure SRow (w wr:World)(blk cap:Nat)(d:Array Int):Prop where
 upd:Upd (fun k=>k=blk) w wr
 row:RowAt wr blk cap d

theorem RowAt.cell {w:World}{blk cap:Nat}{d:Array Int}(h:RowAt w blk cap d):∀ t,t<d.size→w.cell? ⟨blk,t,none⟩=some (.int .u32 d[t]!):=by
 obtain⟨cur,h1,_,_,h4⟩:=h
 intro t ht
 rw [cell_of_row w blk t _ _ _ h1]
 exact h4 t ht

theorem RowAt.frozen {w:World}{blk cap:Nat}{d:Array Int}(h:RowAt w blk cap d):∀ t,w.frozen? ⟨blk,t,none⟩=false:=by
 obtain⟨cur,h1,_⟩:=h
 intro t
 unfold World.frozen?
 rw [h1]
 rfl

theorem RowAt.lt {w:World}{blk cap:Nat}{d:Array Int}(h:RowAt w blk cap d):blk<w.heap.size:=by
 obtain⟨cur,h1,_⟩:=h
 exact lt_of_heap h1

theorem RowAt.keep {G:Nat→Prop}{w w':World}{blk cap:Nat}{d:Array Int}(h:RowAt w blk cap d)(hu:Upd G w w')(hg:¬G blk):RowAt w' blk cap d:=by
 obtain⟨cur,h1,h2⟩:=h
 exact⟨cur,(hu.block blk (lt_of_heap h1) hg).trans h1,h2⟩

theorem swpGet (d:Array Int)(i j t:Nat)(hi:i<d.size)(hj:j<d.size):(swp d i j)[t]! = if t = j then d[i]! else if t = i then d[j]! else d[t]!:=by
 by_cases h1:t=j
 ·subst h1;rw [if_pos rfl];exact swp_right d i t hj
 ·rw [if_neg h1]
  by_cases h2:t=i
  ·subst h2;rw [if_pos rfl];exact swp_left d t j hi h1
  ·rw [if_neg h2];exact swp_other d i j t h2 h1

theorem RowAt.swap {w:World}{blk cap:Nat}{d:Array Int}(h:RowAt w blk cap d)(i j:Nat)(hi:i<d.size)(hj:j<d.size) :
  RowAt ((w.setCell ⟨blk,i,none⟩ (.int .u32 d[j]!)).setCell ⟨blk,j,none⟩ (.int .u32 d[i]!)) blk cap (swp d i j):=by
 obtain⟨cur,h1,h2,h3,h4⟩:=h
 refine⟨(cur.setIfInBounds i (.int .u32 d[j]!)).setIfInBounds j (.int .u32 d[i]!),?_,by simp [h2],by rw [size_swp];exact h3,?_⟩
 ·have e1:=heap_setCell_same w blk i _ _ (.int .u32 d[j]!) h1
  exact heap_setCell_same _ blk j _ _ (.int .u32 d[i]!) e1
 ·intro t ht
  rw [size_swp] at ht
  rw [swpGet d i j t hi hj]
  simp only [Array.getElem?_setIfInBounds,Array.size_setIfInBounds,h2]
  by_cases h5:t=j
  ·subst h5;simp;omega
  ·by_cases h6:t=i
   ·subst h6;simp [h5,Ne.symm h5];omega
   ·simp [h5,h6,Ne.symm h5,Ne.symm h6,h4 t ht]

theorem SRow.swap {w wr:World}{blk cap:Nat}{d:Array Int}(h:SRow w wr blk cap d)(n:Nat)(i j:Nat)(hi:i<d.size)(hj:j<d.size) :
  SRow w (((wr.drewN n).setCell ⟨blk,i,none⟩ (.int .u32 d[j]!)).setCell ⟨blk,j,none⟩ (.int .u32 d[i]!)) blk cap (swp d i j):=
 ⟨((h.upd.drewN n).setCell (p:=⟨blk,i,none⟩) (Or.inl rfl) _).setCell (p:=⟨blk,j,none⟩) (Or.inl rfl) _,RowAt.swap (w:=wr.drewN n) h.row i j hi hj⟩

theorem SRow.drewN {w wr:World}{blk cap:Nat}{d:Array Int}(h:SRow w wr blk cap d)(n:Nat):SRow w (wr.drewN n) blk cap d:=⟨h.upd.drewN n,h.row⟩

theorem SRow.self {w:World}{blk cap:Nat}{d:Array Int}(h:RowAt w blk cap d):SRow w w blk cap d:=⟨Upd.refl _ _,h⟩

theorem SRow.trans {w w1 w2:World}{blk cap:Nat}{d d2:Array Int}(h:SRow w w1 blk cap d)(h2:SRow w1 w2 blk cap d2):SRow w w2 blk cap d2:=⟨h.upd.trans' h2.upd,h2.row⟩

theorem isNaN_calls (x:Int)(w:World):Calls Tryz.prog 286 #[.int .u32 x] w fun e w'=>e=.returned (.bool false)∧w'=w:=by
 go_enter Tryz.func286,Tryz.ntmps286
 go_wp2
 go_ret
 exact⟨rfl,rfl⟩

theorem less_calls (x y:Int)(w:World):Calls Tryz.prog 252 #[.int .u32 x,.int .u32 y] w fun e w'=>e=.returned (.bool (ltInt x y))∧w'=w:=by
 go_enter Tryz.func252,Tryz.ntmps252
 go_wp2_with (go_at_call 286;refine(isNaN_calls _ _).mono ?_;rintro e w' ⟨rfl,rfl⟩)
 all_goals go_ret
 all_goals(refine⟨?_,rfl⟩)
 all_goals simp_all [ltInt]

theorem insIn_go (a j:Nat)(d:Array Int)(hj:a<j)(hl:ltInt d[j]! d[j-1]! = true):insInner ltInt a j d = insInner ltInt a (j-1) (swp d j (j-1)):=by
 obtain⟨k,rfl⟩:∃ k,j=k+1:=⟨j-1,by omega⟩
 simp only [Nat.add_sub_cancel] at hl ⊢
 rw [insInner]
 simp [hj,hl]

theorem insIn_stop (a j:Nat)(d:Array Int)(h:j≤a∨ltInt d[j]! d[j-1]! = false):insInner ltInt a j d = d:=by
 cases j with
 | zero=>rw [insInner]
 | succ k=>
  rw [insInner]
  simp only [Nat.add_sub_cancel] at h
  rcases h with h|h
  ·simp [show ¬k+1 > a by omega]
  ·simp [h]

theorem insOut_go (a b i:Nat)(d:Array Int)(h:i<b):insOuter ltInt a b i d=insOuter ltInt a b (i+1) (insInner ltInt a i d):=by rw [insOuter,if_pos h]

theorem insOut_stop (a b i:Nat)(d:Array Int)(h:¬i<b):insOuter ltInt a b i d=d:=by rw [insOuter,if_neg h]

theorem bool_cases' (b:Bool):b=false∨b=true:=by cases b<;>simp

theorem insertion_calls (blk cap len a b:Nat)(d:Array Int)(w:World)(hr:RowAt w blk cap d)(hl:d.size=len)(hab:a≤b)(hb:b≤len)(hsz:len≤1048576) :
  Calls Tryz.prog 246 #[.slice (some ⟨blk,0,none⟩) len cap,.int .i64 a,.int .i64 b] w fun e w'=>
   e=.returned (.tuple #[])∧SRow w w' blk cap (insertionSort ltInt d a b):=by
 go_enter Tryz.func246,Tryz.ntmps246
 go_wp2
 go_loopg [6] (b+1) (fun gk vi wr=>∃ (i:Nat) (dk:Array Int),gk+i=b+1+(a+1)∧vi=.int .i64 (i:Int)∧a<i∧i≤b+1∧dk.size=len∧SRow w wr blk cap dk∧insOuter ltInt a b i dk=insOuter ltInt a b (a+1) d)
 case atStart=>exact⟨a+1,d,by omega,by go_num,by omega,by omega,hl,SRow.self hr,rfl⟩
 case round=>
  obtain⟨i,dk,hgk,rfl,hai,hib,hsk,hS,hO⟩:=hrel
  have HS:=Lib.hid hS
  have HO:=Lib.hid hO
  have HR:=Lib.hid hr
  have HL:=Lib.hid hl
  have HK:=Lib.hid hsk
  clear hS hO hr hl hsk
  by_cases hlt:i<b
  ·obtain⟨gko,rfl⟩:∃ x:Nat,x=gk:=⟨_,rfl⟩
   obtain⟨wo,rfl⟩:∃ x:World,x=wr:=⟨_,rfl⟩
   go_wp2
   go_loopg [7] i (fun gj vj wr2=>∃ (j:Nat) (dj:Array Int),gj=j∧vj=.int .i64 (j:Int)∧a≤j∧j≤i∧dj.size=len∧SRow w wr2 blk cap dj∧insInner ltInt a j dj=insInner ltInt a i dk)
   case atStart=>exact⟨i,dk,rfl,rfl,by omega,Nat.le_refl _,HK.out,HS.out,rfl⟩
   case round=>
    obtain⟨j,dj,hgj,rfl,haj,hji,hsj,hSj,hI⟩:=hrel
    obtain⟨g,hg⟩:∃ g:Nat→Int,∀ t,g t=dj[t]!:=⟨fun t=>dj[t]!,fun _=>rfl⟩
    have hjl:j<len:=by omega
    have c1:wr.cell? ⟨blk,j,none⟩=some (.int .u32 (g j)):=by rw [hg];exact hSj.row.cell j (by omega)
    have c2:wr.cell? ⟨blk,j-1,none⟩=some (.int .u32 (g (j-1))):=by rw [hg];exact hSj.row.cell (j-1) (by omega)
    have f1:wr.frozen? ⟨blk,j,none⟩=false:=hSj.row.frozen j
    have f2:wr.frozen? ⟨blk,j-1,none⟩=false:=hSj.row.frozen (j-1)
    have HG:=Lib.hid hg
    have HSj:=Lib.hid hSj
    have HI:=Lib.hid hI
    have HJ:=Lib.hid hsj
    clear hg hSj hI hsj
    by_cases hja:a<j
    ·have t1:((j:Int)-1).toNat=j-1:=by omega
     have t2:(0:Int)≤(j:Int)-1:=by omega
     have t3:(j:Int)-1<(len:Int):=by omega
     have t4:(j:Int)<(len:Int):=by omega
     have t5:(a:Int)<(j:Int):=by omega
     rcases bool_cases' (ltInt (g j) (g (j-1))) with hb1|hb1
     ·have HO2:Hid (insOuter ltInt a b (i+1) dj=insOuter ltInt a b (a+1) d):=Lib.hid (by
       rw [← HO.out,insOut_go a b i dk hlt,← HI.out,insIn_stop a j dj (.inr (by rw [← HG.out,← HG.out];exact hb1))])
      go_wp2_with fail
      go_quiet ((go_at_call 252;exact Calls.quiet_of_same (less_calls _ _ _)))
      go_wp2
      go_roundg (gko-1)
      case rel=>exact⟨i+1,dj,by omega,by go_num,by omega,by omega,HJ.out,HSj.out.drewN nq,HO2.out⟩
      case measure=>omega
     ·have HI2:Hid (insInner ltInt a (j-1) (swp dj j (j-1))=insInner ltInt a i dk):=Lib.hid (by
       rw [← HI.out,insIn_go a j dj hja (by rw [← HG.out,← HG.out];exact hb1)])
      have HSw:=fun n=>HSj.out.swap n j (j-1) (by rw [HJ.out];omega) (by rw [HJ.out];omega)
      rw [← HG.out,← HG.out] at HSw
      have HSW:=Lib.hid HSw
      clear HSw
      go_wp2_with fail
      go_quiet ((go_at_call 252;exact Calls.quiet_of_same (less_calls _ _ _)))
      go_wp2
      go_region
      all_goals go_wp2
      go_roundg (gk-1)
      case rel=>exact⟨j-1,swp dj j (j-1),by omega,by congr 1;omega,by omega,by omega,by rw [size_swp];exact HJ.out,HSW.out (nq+1),HI2.out⟩
      case measure=>omega
    ·have t5:decide ((a:Int)<(j:Int))=false:=decide_eq_false (by omega)
     have HO2:Hid (insOuter ltInt a b (i+1) dj=insOuter ltInt a b (a+1) d):=Lib.hid (by
      rw [← HO.out,insOut_go a b i dk hlt,← HI.out,insIn_stop a j dj (.inl (by omega))])
     go_wp2_with fail
     go_quiet ((go_at_call 252;exact Calls.quiet_of_same (less_calls _ _ _)))
     go_wp2
     go_roundg (gko-1)
     case rel=>exact⟨i+1,dj,by omega,by go_num,by omega,by omega,HJ.out,HSj.out.drewN nq,HO2.out⟩
     case measure=>omega
  ·have t5:¬(i:Int)<(b:Int):=by omega
   go_wp2
   go_end0
   exact⟨rfl,by unfold insertionSort;rw [← HO.out,insOut_stop a b i dk hlt];exact HS.out⟩

theorem sift_end {hi F root:Nat}(d:Array Int)(h:hi≤2*root+1):siftDown ltInt hi F root d=d:=by rw [siftDown,dif_pos h]

theorem sift_step {hi F root c:Nat}(d:Array Int)(h:2*root+1<hi)(hc:(2*root+2<hi∧ltInt d[F+(2*root+1)]! d[F+(2*root+2)]! = true∧c = 2*root+2)∨((2*root+2<hi→ltInt d[F+(2*root+1)]! d[F+(2*root+2)]! = false)∧c = 2*root+1)) :
  siftDown ltInt hi F root d = if ltInt d[F+root]! d[F+c]! = true then siftDown ltInt hi F c (swp d (F+root) (F+c)) else d:=by
 rw [siftDown,dif_neg (by omega),show F+(2*root+1)+1=F+(2*root+2) by omega]
 rcases hc with⟨h1,h2,rfl⟩|⟨h1,rfl⟩
 ·have h3:2*root+1+1<hi:=by omega
  rw [h2]
  simp [h3]
  cases ltInt d[F+root]! d[F+(2*root+2)]!<;>simp
 ·have h3:(decide (2*root+1+1<hi)&&ltInt d[F+(2*root+1)]! d[F+(2*root+2)]!)=false:=by
   by_cases h4:2*root+2<hi
   ·simp [h1 h4]
   ·simp [show ¬2*root+1+1<hi by omega]
  rw [h3]
  simp
  cases ltInt d[F+root]! d[F+(2*root+1)]!<;>simp

theorem sift_calls (blk cap len lo hi first:Nat)(d:Array Int)(w:World)(hr:RowAt w blk cap d)(hl:d.size=len)(hlo:lo≤hi)(hb:first+hi≤len)(hsz:len≤1048576) :
  Calls Tryz.prog 281 #[.slice (some ⟨blk,0,none⟩) len cap,.int .i64 lo,.int .i64 hi,.int .i64 first] w fun e w'=>
   e=.returned (.tuple #[])∧SRow w w' blk cap (siftDown ltInt hi first lo d):=by
 go_enter Tryz.func281,Tryz.ntmps281
 go_wp2
 go_loopg [8] (hi-lo) (fun gk vr wr=>∃ (root:Nat) (dk:Array Int),hi-root≤gk∧vr=.int .i64 (root:Int)∧root≤hi∧dk.size=len∧SRow w wr blk cap dk∧siftDown ltInt hi first root dk=siftDown ltInt hi first lo d)
 case atStart=>exact⟨lo,d,by omega,rfl,hlo,hl,SRow.self hr,rfl⟩
 case round=>
  obtain⟨root,dk,hgk,rfl,hrh,hsk,hS,hO⟩:=hrel
  obtain⟨g,hg⟩:∃ g:Nat→Int,∀ t,g t=dk[t]!:=⟨fun t=>dk[t]!,fun _=>rfl⟩
  have HG:=Lib.hid hg
  have HS:=Lib.hid hS
  have HO:=Lib.hid hO
  have HK:=Lib.hid hsk
  clear hg hS hO hsk hr hl
  by_cases hA:hi≤2*root+1
  ·have hA2:(hi:Int)≤2*(root:Int)+1:=by omega
   go_wp2
   first|go_end0|refine bodyPost_ret (results_none rfl _ _ _) rfl ?_
   exact⟨rfl,by rw [← HO.out,sift_end dk hA];exact HS.out⟩
  ·have hA2:2*(root:Int)+1<(hi:Int):=by omega
   have s1:((first:Int)+(2*(root:Int)+1)).toNat=first+(2*root+1):=by omega
   have s2:(0:Int)≤(first:Int)+(2*(root:Int)+1):=by omega
   have s3:(first:Int)+(2*(root:Int)+1)<(len:Int):=by omega
   have r1:((first:Int)+(root:Int)).toNat=first+root:=by omega
   have r2:(0:Int)≤(first:Int)+(root:Int):=by omega
   have r3:(first:Int)+(root:Int)<(len:Int):=by omega
   by_cases hB:2*root+2<hi
   ·have hB2:2*(root:Int)+1+1<(hi:Int):=by omega
    have u1:((first:Int)+(2*(root:Int)+1)+1).toNat=first+(2*root+2):=by omega
    have u2:(0:Int)≤(first:Int)+(2*(root:Int)+1)+1:=by omega
    have u3:(first:Int)+(2*(root:Int)+1)+1<(len:Int):=by omega
    have v1:((first:Int)+(2*(root:Int)+1+1)).toNat=first+(2*root+2):=by omega
    have v2:(0:Int)≤(first:Int)+(2*(root:Int)+1+1):=by omega
    have v3:(first:Int)+(2*(root:Int)+1+1)<(len:Int):=by omega
    have c1:wr.cell? ⟨blk,first+(2*root+1),none⟩=some (.int .u32 (g (first+(2*root+1)))):=by rw [HG.out];exact HS.out.row.cell (first+(2*root+1)) (by rw [HK.out];omega)
    have f1:wr.frozen? ⟨blk,first+(2*root+1),none⟩=false:=HS.out.row.frozen (first+(2*root+1))
    have c2:wr.cell? ⟨blk,first+(2*root+2),none⟩=some (.int .u32 (g (first+(2*root+2)))):=by rw [HG.out];exact HS.out.row.cell (first+(2*root+2)) (by rw [HK.out];omega)
    have f2:wr.frozen? ⟨blk,first+(2*root+2),none⟩=false:=HS.out.row.frozen (first+(2*root+2))
    rcases bool_cases' (ltInt (g (first+(2*root+1))) (g (first+(2*root+2)))) with hb1|hb1
    ·skip
     have hst:=sift_step (hi:=hi) (root:=root) (F:=first) (c:=2*root+1) dk (by omega) (.inr ⟨fun h=>by rw [← HG.out,← HG.out];exact hb1,rfl⟩)
     have HST:=Lib.hid hst
     clear hst
     rcases bool_cases' (ltInt (g (first+root)) (g (first+(2*root+1)))) with hb2|hb2
     ·have hlt2:ltInt dk[first+root]! dk[first+(2*root+1)]! = false:=by rw [← HG.out,← HG.out];exact hb2
      have HE:Hid (siftDown ltInt hi first lo d=dk):=Lib.hid (by rw [← HO.out,HST.out,if_neg (by rw [hlt2];simp)])
      clear hlt2
      go_wp2_with fail
      go_quiet ((go_at_call 252;exact Calls.quiet_of_same (less_calls _ _ _)))
      go_wp2_with fail
      have HS2:=HS.out.drewN nq
      generalize wr.drewN nq=wr2 at HS2 ⊢
      clear nq
      clear c1 c2 f1 f2 hb1
      have HS2:=Lib.hid HS2
      have c3:wr2.cell? ⟨blk,first+root,none⟩=some (.int .u32 (g (first+root))):=by rw [HG.out];exact HS2.out.row.cell (first+root) (by rw [HK.out];omega)
      have f3:wr2.frozen? ⟨blk,first+root,none⟩=false:=HS2.out.row.frozen (first+root)
      have c4:wr2.cell? ⟨blk,first+(2*root+1),none⟩=some (.int .u32 (g (first+(2*root+1)))):=by rw [HG.out];exact HS2.out.row.cell (first+(2*root+1)) (by rw [HK.out];omega)
      have f4:wr2.frozen? ⟨blk,first+(2*root+1),none⟩=false:=HS2.out.row.frozen (first+(2*root+1))
      go_quiet ((go_at_call 252;exact Calls.quiet_of_same (less_calls _ _ _)))
      go_wp2
      first|go_end0|refine bodyPost_ret (results_none rfl _ _ _) rfl ?_
      exact⟨rfl,by rw [HE.out];exact HS2.out.drewN nq⟩
     ·have hlt2:ltInt dk[first+root]! dk[first+(2*root+1)]! = true:=by rw [← HG.out,← HG.out];exact hb2
      have HE:Hid (siftDown ltInt hi first (2*root+1) (swp dk (first+root) (first+(2*root+1)))=siftDown ltInt hi first lo d):=Lib.hid (by rw [← HO.out,HST.out,if_pos hlt2])
      clear hlt2
      go_wp2_with fail
      go_quiet ((go_at_call 252;exact Calls.quiet_of_same (less_calls _ _ _)))
      go_wp2_with fail
      have HS2:=HS.out.drewN nq
      generalize wr.drewN nq=wr2 at HS2 ⊢
      clear nq
      clear c1 c2 f1 f2 hb1
      have HS2:=Lib.hid HS2
      have c3:wr2.cell? ⟨blk,first+root,none⟩=some (.int .u32 (g (first+root))):=by rw [HG.out];exact HS2.out.row.cell (first+root) (by rw [HK.out];omega)
      have f3:wr2.frozen? ⟨blk,first+root,none⟩=false:=HS2.out.row.frozen (first+root)
      have c4:wr2.cell? ⟨blk,first+(2*root+1),none⟩=some (.int .u32 (g (first+(2*root+1)))):=by rw [HG.out];exact HS2.out.row.cell (first+(2*root+1)) (by rw [HK.out];omega)
      have f4:wr2.frozen? ⟨blk,first+(2*root+1),none⟩=false:=HS2.out.row.frozen (first+(2*root+1))
      go_quiet ((go_at_call 252;exact Calls.quiet_of_same (less_calls _ _ _)))
      go_wp2_with fail
      have HS3:=HS2.out.drewN nq
      generalize wr2.drewN nq=wr3 at HS3 ⊢
      clear nq c3 c4 f3 f4
      have HS3:=Lib.hid HS3
      have c5:wr3.cell? ⟨blk,first+root,none⟩=some (.int .u32 (g (first+root))):=by rw [HG.out];exact HS3.out.row.cell (first+root) (by rw [HK.out];omega)
      have f5:wr3.frozen? ⟨blk,first+root,none⟩=false:=HS3.out.row.frozen (first+root)
      have c6:wr3.cell? ⟨blk,first+(2*root+1),none⟩=some (.int .u32 (g (first+(2*root+1)))):=by rw [HG.out];exact HS3.out.row.cell (first+(2*root+1)) (by rw [HK.out];omega)
      have f6:wr3.frozen? ⟨blk,first+(2*root+1),none⟩=false:=HS3.out.row.frozen (first+(2*root+1))
      have HSw:=fun n=>HS3.out.swap n (first+root) (first+(2*root+1)) (by rw [HK.out];omega) (by rw [HK.out];omega)
      rw [← HG.out,← HG.out] at HSw
      have HSW:=Lib.hid HSw
      clear HSw
      go_region
      all_goals go_wp2
      go_roundg (gk-1)
      case rel=>exact⟨2*root+1,_,by omega,by first|rfl|go_num|(congr 1;omega),by omega,by rw [size_swp];exact HK.out,HSW.out 1,HE.out⟩
      case measure=>omega
    ·skip
     have hst:=sift_step (hi:=hi) (root:=root) (F:=first) (c:=2*root+2) dk (by omega) (.inl ⟨hB,by rw [← HG.out,← HG.out];exact hb1,rfl⟩)
     have HST:=Lib.hid hst
     clear hst
     rcases bool_cases' (ltInt (g (first+root)) (g (first+(2*root+2)))) with hb2|hb2
     ·have hlt2:ltInt dk[first+root]! dk[first+(2*root+2)]! = false:=by rw [← HG.out,← HG.out];exact hb2
      have HE:Hid (siftDown ltInt hi first lo d=dk):=Lib.hid (by rw [← HO.out,HST.out,if_neg (by rw [hlt2];simp)])
      clear hlt2
      go_wp2_with fail
      go_quiet ((go_at_call 252;exact Calls.quiet_of_same (less_calls _ _ _)))
      go_wp2_with fail
      have HS2:=HS.out.drewN nq
      generalize wr.drewN nq=wr2 at HS2 ⊢
      clear nq
      clear c1 c2 f1 f2 hb1
      have HS2:=Lib.hid HS2
      have c3:wr2.cell? ⟨blk,first+root,none⟩=some (.int .u32 (g (first+root))):=by rw [HG.out];exact HS2.out.row.cell (first+root) (by rw [HK.out];omega)
      have f3:wr2.frozen? ⟨blk,first+root,none⟩=false:=HS2.out.row.frozen (first+root)
      have c4:wr2.cell? ⟨blk,first+(2*root+2),none⟩=some (.int .u32 (g (first+(2*root+2)))):=by rw [HG.out];exact HS2.out.row.cell (first+(2*root+2)) (by rw [HK.out];omega)
      have f4:wr2.frozen? ⟨blk,first+(2*root+2),none⟩=false:=HS2.out.row.frozen (first+(2*root+2))
      go_quiet ((go_at_call 252;exact Calls.quiet_of_same (less_calls _ _ _)))
      go_wp2
      first|go_end0|refine bodyPost_ret (results_none rfl _ _ _) rfl ?_
      exact⟨rfl,by rw [HE.out];exact HS2.out.drewN nq⟩
     ·have hlt2:ltInt dk[first+root]! dk[first+(2*root+2)]! = true:=by rw [← HG.out,← HG.out];exact hb2
      have HE:Hid (siftDown ltInt hi first (2*root+2) (swp dk (first+root) (first+(2*root+2)))=siftDown ltInt hi first lo d):=Lib.hid (by rw [← HO.out,HST.out,if_pos hlt2])
      clear hlt2
      go_wp2_with fail
      go_quiet ((go_at_call 252;exact Calls.quiet_of_same (less_calls _ _ _)))
      go_wp2_with fail
      have HS2:=HS.out.drewN nq
      generalize wr.drewN nq=wr2 at HS2 ⊢
      clear nq
      clear c1 c2 f1 f2 hb1
      have HS2:=Lib.hid HS2
      have c3:wr2.cell? ⟨blk,first+root,none⟩=some (.int .u32 (g (first+root))):=by rw [HG.out];exact HS2.out.row.cell (first+root) (by rw [HK.out];omega)
      have f3:wr2.frozen? ⟨blk,first+root,none⟩=false:=HS2.out.row.frozen (first+root)
      have c4:wr2.cell? ⟨blk,first+(2*root+2),none⟩=some (.int .u32 (g (first+(2*root+2)))):=by rw [HG.out];exact HS2.out.row.cell (first+(2*root+2)) (by rw [HK.out];omega)
      have f4:wr2.frozen? ⟨blk,first+(2*root+2),none⟩=false:=HS2.out.row.frozen (first+(2*root+2))
      go_quiet ((go_at_call 252;exact Calls.quiet_of_same (less_calls _ _ _)))
      go_wp2_with fail
      have HS3:=HS2.out.drewN nq
      generalize wr2.drewN nq=wr3 at HS3 ⊢
      clear nq c3 c4 f3 f4
      have HS3:=Lib.hid HS3
      have c5:wr3.cell? ⟨blk,first+root,none⟩=some (.int .u32 (g (first+root))):=by rw [HG.out];exact HS3.out.row.cell (first+root) (by rw [HK.out];omega)
      have f5:wr3.frozen? ⟨blk,first+root,none⟩=false:=HS3.out.row.frozen (first+root)
      have c6:wr3.cell? ⟨blk,first+(2*root+2),none⟩=some (.int .u32 (g (first+(2*root+2)))):=by rw [HG.out];exact HS3.out.row.cell (first+(2*root+2)) (by rw [HK.out];omega)
      have f6:wr3.frozen? ⟨blk,first+(2*root+2),none⟩=false:=HS3.out.row.frozen (first+(2*root+2))
      have HSw:=fun n=>HS3.out.swap n (first+root) (first+(2*root+2)) (by rw [HK.out];omega) (by rw [HK.out];omega)
      rw [← HG.out,← HG.out] at HSw
      have HSW:=Lib.hid HSw
      clear HSw
      go_region
      all_goals go_wp2
      go_roundg (gk-1)
      case rel=>exact⟨2*root+2,_,by omega,by first|rfl|go_num|(congr 1;omega),by omega,by rw [size_swp];exact HK.out,HSW.out 1,HE.out⟩
      case measure=>omega
   ·have hB2:decide (2*(root:Int)+1+1<(hi:Int))=false:=decide_eq_false (by omega)
    have hst:=sift_step (hi:=hi) (root:=root) (F:=first) (c:=2*root+1) dk (by omega) (.inr ⟨fun h=>absurd h hB,rfl⟩)
    have HST:=Lib.hid hst
    clear hst
    rcases bool_cases' (ltInt (g (first+root)) (g (first+(2*root+1)))) with hb2|hb2
    ·have hlt2:ltInt dk[first+root]! dk[first+(2*root+1)]! = false:=by rw [← HG.out,← HG.out];exact hb2
     have HE:Hid (siftDown ltInt hi first lo d=dk):=Lib.hid (by rw [← HO.out,HST.out,if_neg (by rw [hlt2];simp)])
     clear hlt2
     go_wp2_with fail
     go_quiet ((go_at_call 252;exact Calls.quiet_of_same (less_calls _ _ _)))
     go_wp2_with fail
     have HS2:=HS.out.drewN nq
     generalize wr.drewN nq=wr2 at HS2 ⊢
     clear nq
     have HS2:=Lib.hid HS2
     have c3:wr2.cell? ⟨blk,first+root,none⟩=some (.int .u32 (g (first+root))):=by rw [HG.out];exact HS2.out.row.cell (first+root) (by rw [HK.out];omega)
     have f3:wr2.frozen? ⟨blk,first+root,none⟩=false:=HS2.out.row.frozen (first+root)
     have c4:wr2.cell? ⟨blk,first+(2*root+1),none⟩=some (.int .u32 (g (first+(2*root+1)))):=by rw [HG.out];exact HS2.out.row.cell (first+(2*root+1)) (by rw [HK.out];omega)
     have f4:wr2.frozen? ⟨blk,first+(2*root+1),none⟩=false:=HS2.out.row.frozen (first+(2*root+1))
     go_quiet ((go_at_call 252;exact Calls.quiet_of_same (less_calls _ _ _)))
     go_wp2
     first|go_end0|refine bodyPost_ret (results_none rfl _ _ _) rfl ?_
     exact⟨rfl,by rw [HE.out];exact HS2.out.drewN nq⟩
    ·have hlt2:ltInt dk[first+root]! dk[first+(2*root+1)]! = true:=by rw [← HG.out,← HG.out];exact hb2
     have HE:Hid (siftDown ltInt hi first (2*root+1) (swp dk (first+root) (first+(2*root+1)))=siftDown ltInt hi first lo d):=Lib.hid (by rw [← HO.out,HST.out,if_pos hlt2])
     clear hlt2
     go_wp2_with fail
     go_quiet ((go_at_call 252;exact Calls.quiet_of_same (less_calls _ _ _)))
     go_wp2_with fail
     have HS2:=HS.out.drewN nq
     generalize wr.drewN nq=wr2 at HS2 ⊢
     clear nq
     have HS2:=Lib.hid HS2
     have c3:wr2.cell? ⟨blk,first+root,none⟩=some (.int .u32 (g (first+root))):=by rw [HG.out];exact HS2.out.row.cell (first+root) (by rw [HK.out];omega)
     have f3:wr2.frozen? ⟨blk,first+root,none⟩=false:=HS2.out.row.frozen (first+root)
     have c4:wr2.cell? ⟨blk,first+(2*root+1),none⟩=some (.int .u32 (g (first+(2*root+1)))):=by rw [HG.out];exact HS2.out.row.cell (first+(2*root+1)) (by rw [HK.out];omega)
     have f4:wr2.frozen? ⟨blk,first+(2*root+1),none⟩=false:=HS2.out.row.frozen (first+(2*root+1))
     go_quiet ((go_at_call 252;exact Calls.quiet_of_same (less_calls _ _ _)))
     go_wp2_with fail
     have HS3:=HS2.out.drewN nq
     generalize wr2.drewN nq=wr3 at HS3 ⊢
     clear nq c3 c4 f3 f4
     have HS3:=Lib.hid HS3
     have c5:wr3.cell? ⟨blk,first+root,none⟩=some (.int .u32 (g (first+root))):=by rw [HG.out];exact HS3.out.row.cell (first+root) (by rw [HK.out];omega)
     have f5:wr3.frozen? ⟨blk,first+root,none⟩=false:=HS3.out.row.frozen (first+root)
     have c6:wr3.cell? ⟨blk,first+(2*root+1),none⟩=some (.int .u32 (g (first+(2*root+1)))):=by rw [HG.out];exact HS3.out.row.cell (first+(2*root+1)) (by rw [HK.out];omega)
     have f6:wr3.frozen? ⟨blk,first+(2*root+1),none⟩=false:=HS3.out.row.frozen (first+(2*root+1))
     have HSw:=fun n=>HS3.out.swap n (first+root) (first+(2*root+1)) (by rw [HK.out];omega) (by rw [HK.out];omega)
     rw [← HG.out,← HG.out] at HSw
     have HSW:=Lib.hid HSw
     clear HSw
     go_region
     all_goals go_wp2
     go_roundg (gk-1)
     case rel=>exact⟨2*root+1,_,by omega,by first|rfl|go_num|(congr 1;omega),by omega,by rw [size_swp];exact HK.out,HSW.out 1,HE.out⟩
     case measure=>omega

theorem sift_size (hi first root:Nat)(d:Array Int):(siftDown ltInt hi first root d).size=d.size:=by
 fun_induction siftDown ltInt hi first root d<;>simp_all [size_swp]

theorem heap_calls (blk cap len a b:Nat)(d:Array Int)(w:World)(hr:RowAt w blk cap d)(hl:d.size=len)(hab:a<b)(hb:b≤len)(hsz:len≤1048576) :
  Calls Tryz.prog 247 #[.slice (some ⟨blk,0,none⟩) len cap,.int .i64 a,.int .i64 b] w fun e w'=>
   e=.returned (.tuple #[])∧SRow w w' blk cap (heapSort ltInt d a b):=by
 go_enter Tryz.func247,Tryz.ntmps247
 go_wp2
 go_loopg [9] (b-a+1) (fun gk vi wr=>∃ (k:Nat) (dk:Array Int),k≤gk∧k≤(b-a-1) / 2+1∧vi=.int .i64 ((k:Int)-1)∧dk.size=len∧SRow w wr blk cap dk∧heapBuild ltInt (b-a) a k dk=heapBuild ltInt (b-a) a ((b-a-1) / 2+1) d)
 case atStart=>exact⟨(b-a-1) / 2+1,d,by omega,Nat.le_refl _,by congr 1;omega,hl,SRow.self hr,rfl⟩
 case round=>
  obtain⟨k,dk,hgk,hk1,rfl,hsk,hS,hO⟩:=hrel
  have HS:=Lib.hid hS
  have HO:=Lib.hid hO
  have HK:=Lib.hid hsk
  clear hS hO hsk hr hl
  cases k with
  | succ k=>
   have e:((k+1:Nat):Int)-1=(k:Int):=by omega
   rw [e]
   have HE:Hid (heapBuild ltInt (b-a) a k (siftDown ltInt (b-a) a k dk)=heapBuild ltInt (b-a) a ((b-a-1) / 2+1) d):=Lib.hid (by rw [← HO.out];rfl)
   clear e
   have hc:=sift_calls blk cap len k (b-a) a dk wr HS.out.row HK.out (by omega) (by omega) hsz
   rw [show((b-a:Nat):Int)=(b:Int)-(a:Int) by omega] at hc
   have HC:=Lib.hid hc
   clear hc
   go_wp2_with fail
   refine HC.out.mono ?_
   rintro e w2 ⟨rfl,hS2⟩
   have HS2:=Lib.hid (HS.out.trans hS2)
   have HSZ:=Lib.hid (sift_size (b-a) a k dk)
   clear hS2
   go_wp2
   go_roundg (gk-1)
   case rel=>exact⟨k,_,by omega,by omega,rfl,by rw [HSZ.out];exact HK.out,HS2.out,HE.out⟩
   case measure=>omega
  | zero=>
   have HE:Hid (heapBuild ltInt (b-a) a ((b-a-1) / 2+1) d=dk):=Lib.hid HO.out.symm
   have e0:(((0:Nat):Int)-1)=-1:=rfl
   rw [e0]
   clear e0
   obtain⟨wo,rfl⟩:∃ x:World,x=wr:=⟨_,rfl⟩
   go_wp2_with fail
   go_loopg [10] (b-a) (fun gj vi wr=>∃ (k:Nat) (dj:Array Int),k≤gj∧k≤b-a∧vi=.int .i64 ((k:Int)-1)∧dj.size=len∧SRow w wr blk cap dj∧heapPop ltInt a k dj=heapPop ltInt a (b-a) dk)
   case atStart=>exact⟨b-a,dk,Nat.le_refl _,Nat.le_refl _,by congr 1;omega,HK.out,HS.out,rfl⟩
   case round=>
    obtain⟨k,dj,hgj,hk2,rfl,hsj,hSj,hP⟩:=hrel
    have HSj:=Lib.hid hSj
    have HP:=Lib.hid hP
    have HJ:=Lib.hid hsj
    clear hSj hP hsj
    cases k with
    | zero=>
     have e0:(((0:Nat):Int)-1)=-1:=rfl
     rw [e0]
     clear e0
     go_wp2
     first|go_end0|refine bodyPost_ret (results_none rfl _ _ _) rfl ?_
     exact⟨rfl,by unfold heapSort;rw [HE.out,← HP.out];exact HSj.out⟩
    | succ k=>
     have HE2:Hid (heapPop ltInt a k (siftDown ltInt k a 0 (swp dj a (a+k)))=heapPop ltInt a (b-a) dk):=Lib.hid (by rw [← HP.out];rfl)
     obtain⟨g,hg⟩:∃ g:Nat→Int,∀ t,g t=dj[t]!:=⟨fun t=>dj[t]!,fun _=>rfl⟩
     have HG:=Lib.hid hg
     clear hg
     have c1:wr.cell? ⟨blk,a,none⟩=some (.int .u32 (g a)):=by rw [HG.out];exact HSj.out.row.cell a (by rw [HJ.out];omega)
     have f1:wr.frozen? ⟨blk,a,none⟩=false:=HSj.out.row.frozen a
     have r4:(a:Int)<(len:Int):=by omega
     have HSw:=fun n=>HSj.out.swap n a (a+k) (by rw [HJ.out];omega) (by rw [HJ.out];omega)
     rw [← HG.out,← HG.out] at HSw
     have HSW:=Lib.hid HSw
     clear HSw
     rcases Nat.eq_zero_or_pos k with rfl|hk0
     ·have e:((0+1:Nat):Int)-1=0:=rfl
      rw [e]
      clear e
      have f2:True:=trivial
      go_wp2_with fail
      go_region
      obtain⟨w3,hw3⟩:∃ x,x=((wr.setCell ⟨blk,a,none⟩ (.int .u32 (g a))).setCell ⟨blk,a,none⟩ (.int .u32 (g a))).drew:=⟨_,rfl⟩
      have HS3:SRow w w3 blk cap (swp dj a (a+0)):=by rw [hw3];exact HSW.out 1
      have hc:=sift_calls blk cap len 0 0 a (swp dj a (a+0)) w3 HS3.row (by rw [size_swp];exact HJ.out) (by omega) (by omega) hsz
      have HC:=Lib.hid hc
      have HS3:=Lib.hid HS3
      rw [← hw3]
      clear hc hw3 c1 f1 f2
      go_wp2_with fail
      refine HC.out.mono ?_
      rintro e w4 ⟨rfl,hS4⟩
      have HS4:=Lib.hid (HS3.out.trans hS4)
      have HSZ:=Lib.hid (sift_size 0 a 0 (swp dj a (a+0)))
      clear hS4
      go_wp2
      go_roundg (gk-1)
      case rel=>exact⟨0,_,by omega,by omega,rfl,by rw [HSZ.out,size_swp];exact HJ.out,HS4.out,HE2.out⟩
      case measure=>omega
     ·have e:((k+1:Nat):Int)-1=(k:Int):=by omega
      rw [e]
      clear e
      have n1:¬a+k=a:=by omega
      have n2:¬k=0:=by omega
      have c2:wr.cell? ⟨blk,a+k,none⟩=some (.int .u32 (g (a+k))):=by rw [HG.out];exact HSj.out.row.cell (a+k) (by rw [HJ.out];omega)
      have f2:wr.frozen? ⟨blk,a+k,none⟩=false:=HSj.out.row.frozen (a+k)
      have r1:((a:Int)+(k:Int)).toNat=a+k:=by omega
      have r2:(0:Int)≤(a:Int)+(k:Int):=by omega
      have r3:(a:Int)+(k:Int)<(len:Int):=by omega
      have rw0:IntKind.i64.wrap ((a:Int)+(k:Int))=(a:Int)+(k:Int):=IntWalk.i64_in _ ⟨by omega,by omega⟩
      go_wp2_with fail
      go_region
      clear rw0 n1 n2 c2 r1 r2 r3
      obtain⟨w3,hw3⟩:∃ x,x=((wr.setCell ⟨blk,a,none⟩ (.int .u32 (g (a+k)))).setCell ⟨blk,a+k,none⟩ (.int .u32 (g a))).drew:=⟨_,rfl⟩
      have HS3:SRow w w3 blk cap (swp dj a (a+k)):=by rw [hw3];exact HSW.out 1
      have hc:=sift_calls blk cap len 0 k a (swp dj a (a+k)) w3 HS3.row (by rw [size_swp];exact HJ.out) (by omega) (by omega) hsz
      have HC:=Lib.hid hc
      have HS3:=Lib.hid HS3
      rw [← hw3]
      clear hc hw3 c1 f1 f2
      go_wp2_with fail
      refine HC.out.mono ?_
      rintro e w4 ⟨rfl,hS4⟩
      have HS4:=Lib.hid (HS3.out.trans hS4)
      have HSZ:=Lib.hid (sift_size k a 0 (swp dj a (a+k)))
      clear hS4
      go_wp2
      go_roundg (gk-1)
      case rel=>exact⟨k,_,by omega,by omega,rfl,by rw [HSZ.out,size_swp];exact HJ.out,HS4.out,HE2.out⟩
      case measure=>omega

theorem reverse_calls (blk cap len a b:Nat)(d:Array Int)(w:World)(hr:RowAt w blk cap d)(hl:d.size=len)(hab:a<b)(hb:b≤len)(hsz:len≤1048576) :
  Calls Tryz.prog 250 #[.slice (some ⟨blk,0,none⟩) len cap,.int .i64 a,.int .i64 b] w fun e w'=>
   e=.returned (.tuple #[])∧∃ d',PermIn a b d d'∧SRow w w' blk cap d':=by
 go_enter Tryz.func250,Tryz.ntmps250
 go_wp2
 go_loopg [6,7] (b-a) (fun gk vi vj wr=>∃ (i j:Nat) (dk:Array Int),j-i≤gk∧a≤i∧j<b∧vi=.int .i64 (i:Int)∧vj=.int .i64 (j:Int)∧PermIn a b d dk∧SRow w wr blk cap dk)
 case atStart=>exact⟨a,b-1,d,by omega,Nat.le_refl _,by omega,rfl,by congr 1;omega,permIn_refl _ _ _,SRow.self hr⟩
 case round=>
  obtain⟨i,j,dk,hgk,hai,hjb,rfl,rfl,hP,hS⟩:=hrel
  have hsk:dk.size=len:=hP.1.trans hl
  have HS:=Lib.hid hS
  have HP:=Lib.hid hP
  have HK:=Lib.hid hsk
  have HL:=Lib.hid hl
  clear hS hP hsk hr hl
  by_cases hij:i<j
  ·obtain⟨g,hg⟩:∃ g:Nat→Int,∀ t,g t=dk[t]!:=⟨fun t=>dk[t]!,fun _=>rfl⟩
   have HG:=Lib.hid hg
   clear hg
   have c1:wr.cell? ⟨blk,i,none⟩=some (.int .u32 (g i)):=by rw [HG.out];exact HS.out.row.cell i (by rw [HK.out];omega)
   have c2:wr.cell? ⟨blk,j,none⟩=some (.int .u32 (g j)):=by rw [HG.out];exact HS.out.row.cell j (by rw [HK.out];omega)
   have f1:wr.frozen? ⟨blk,i,none⟩=false:=HS.out.row.frozen i
   have f2:wr.frozen? ⟨blk,j,none⟩=false:=HS.out.row.frozen j
   have r1:(i:Int)<(len:Int):=by omega
   have r2:(j:Int)<(len:Int):=by omega
   have r3:(i:Int)<(j:Int):=by omega
   have n1:¬j=i:=by omega
   have HSw:=fun n=>HS.out.swap n i j (by rw [HK.out];omega) (by rw [HK.out];omega)
   rw [← HG.out,← HG.out] at HSw
   have HSW:=Lib.hid HSw
   clear HSw
   go_wp2_with fail
   go_region
   all_goals go_wp2
   go_roundg (gk-1)
   case rel=>exact⟨i+1,j-1,swp dk i j,by omega,by omega,by omega,by first|rfl|go_num,by congr 1;omega,permIn_trans _ _ _ _ _ HP.out (swp_permIn dk a b i j hai (by omega) (by omega) hjb (by rw [HK.out];exact hb)),HSW.out 1⟩
   case measure=>omega
  ·have r3:¬(i:Int)<(j:Int):=by omega
   go_wp2
   first|go_end0|refine bodyPost_ret (results_none rfl _ _ _) rfl ?_
   exact⟨rfl,dk,HP.out,HS.out⟩

structure BoxAt (w w':World)(sb:Nat)(n:Int):Prop where
 upd:Upd (fun k=>k=sb) w w'
 cell:w'.cell? ⟨sb,0,none⟩=some (.int .i64 n)
 free:w'.frozen? ⟨sb,0,none⟩=false

theorem RowAt.box {w w':World}{blk cap sb:Nat}{n:Int}{d:Array Int}(h:RowAt w blk cap d)(hb:BoxAt w w' sb n)(hne:blk≠sb):RowAt w' blk cap d:=h.keep hb.upd hne

theorem order2_calls (blk cap len a b sb:Nat)(n:Int)(d:Array Int)(w:World)(hr:RowAt w blk cap d)(hl:d.size=len)(ha:a<len)(hb:b<len)(hsz:len≤1048576)(hc:w.cell? ⟨sb,0,none⟩=some (.int .i64 n))(hf:w.frozen? ⟨sb,0,none⟩=false)(hn:0≤n)(hn2:n≤1000) :
  Calls Tryz.prog 292 #[.slice (some ⟨blk,0,none⟩) len cap,.int .i64 a,.int .i64 b,.pointer (some ⟨sb,0,none⟩)] w fun e w'=>
   ∃ (x y:Nat) (m:Int),e=.returned (.tuple #[.int .i64 x,.int .i64 y])∧(x=a∨x=b)∧(y=a∨y=b)∧0≤m∧m≤n+1∧BoxAt w w' sb m:=by
 obtain⟨g,hg⟩:∃ g:Nat→Int,∀ t,g t=d[t]!:=⟨fun t=>d[t]!,fun _=>rfl⟩
 have c1:w.cell? ⟨blk,a,none⟩=some (.int .u32 (g a)):=by rw [hg];exact hr.cell a (by omega)
 have c2:w.cell? ⟨blk,b,none⟩=some (.int .u32 (g b)):=by rw [hg];exact hr.cell b (by omega)
 clear hg hr hl
 have r1:(a:Int)<(len:Int):=by omega
 have r2:(b:Int)<(len:Int):=by omega
 have HC:=Lib.hid hc
 have HF:=Lib.hid hf
 go_enter Tryz.func292,Tryz.ntmps292
 go_wp2_with fail
 go_quiet ((go_at_call 252;exact Calls.quiet_of_same (less_calls _ _ _)))
 go_wp2
 all_goals refine bodyPost_ret (results_tmp2 rfl _ _ _) rfl ?_
 ·exact⟨b,a,n+1,rfl,.inr rfl,.inl rfl,by omega,by omega,((Upd.refl (fun k=>k=sb) w).drewN _).setCell (p:=⟨sb,0,none⟩) (Or.inl rfl) _,by simp [go_sem,hc],by rw [World.frozen?_setCell];exact HF.out⟩
 ·exact⟨a,b,n,rfl,.inl rfl,.inr rfl,hn,by omega,(Upd.refl _ _).drewN _,HC.out,HF.out⟩

theorem BoxAt.trans {w w1 w2:World}{sb:Nat}{n m:Int}(h:BoxAt w w1 sb n)(h2:BoxAt w1 w2 sb m):BoxAt w w2 sb m:=⟨h.upd.trans' h2.upd,h2.cell,h2.free⟩

theorem median_calls (blk cap len a b c sb:Nat)(n:Int)(d:Array Int)(w:World)(hr:RowAt w blk cap d)(hl:d.size=len)(ha:a<len)(hb:b<len)(hc':c<len)(hsz:len≤1048576)(hne:blk≠sb)(hc:w.cell? ⟨sb,0,none⟩=some (.int .i64 n))(hf:w.frozen? ⟨sb,0,none⟩=false)(hn:0≤n)(hn2:n≤900) :
  Calls Tryz.prog 285 #[.slice (some ⟨blk,0,none⟩) len cap,.int .i64 a,.int .i64 b,.int .i64 c,.pointer (some ⟨sb,0,none⟩)] w fun e w'=>
   ∃ (x:Nat) (m:Int),e=.returned (.int .i64 x)∧(x=a∨x=b∨x=c)∧0≤m∧m≤n+3∧BoxAt w w' sb m:=by
 have HR:=Lib.hid hr
 have HL:=Lib.hid hl
 clear hr hl
 go_enter Tryz.func285,Tryz.ntmps285
 go_wp2_with fail
 refine(order2_calls blk cap len a b sb n d w HR.out HL.out ha hb hsz hc hf hn (by omega)).mono ?_
 rintro e w1 ⟨x1,y1,m1,rfl,hx1,hy1,hm1,hm2,hB1⟩
 have lx1:x1<len:=by omega
 have ly1:y1<len:=by omega
 have HB1:=Lib.hid hB1
 clear hB1 hc hf
 go_wp2_with fail
 refine(order2_calls blk cap len y1 c sb m1 d w1 (HR.out.box HB1.out hne) HL.out ly1 hc' hsz HB1.out.cell HB1.out.free hm1 (by omega)).mono ?_
 rintro e w2 ⟨x2,y2,m2,rfl,hx2,hy2,hm3,hm4,hB2⟩
 have lx2:x2<len:=by omega
 have HB2:=Lib.hid (HB1.out.trans hB2)
 clear hB2
 go_wp2_with fail
 refine(order2_calls blk cap len x1 x2 sb m2 d w2 (HR.out.box HB2.out hne) HL.out lx1 lx2 hsz HB2.out.cell HB2.out.free hm3 (by omega)).mono ?_
 rintro e w3 ⟨x3,y3,m3,rfl,hx3,hy3,hm5,hm6,hB3⟩
 have HB3:=Lib.hid (HB2.out.trans hB3)
 clear hB3
 go_wp2
 go_ret
 exact⟨y3,m3,rfl,by omega,hm5,by omega,HB3.out⟩

theorem adjacent_calls (blk cap len a sb:Nat)(n:Int)(d:Array Int)(w:World)(hr:RowAt w blk cap d)(hl:d.size=len)(ha0:1≤a)(ha:a+1<len)(hsz:len≤1048576)(hne:blk≠sb)(hc:w.cell? ⟨sb,0,none⟩=some (.int .i64 n))(hf:w.frozen? ⟨sb,0,none⟩=false)(hn:0≤n)(hn2:n≤900) :
  Calls Tryz.prog 284 #[.slice (some ⟨blk,0,none⟩) len cap,.int .i64 a,.pointer (some ⟨sb,0,none⟩)] w fun e w'=>
   ∃ (x:Nat) (m:Int),e=.returned (.int .i64 x)∧(a≤x+1∧x≤a+1)∧0≤m∧m≤n+3∧BoxAt w w' sb m:=by
 have hm:=median_calls blk cap len (a-1) a (a+1) sb n d w hr hl (by omega) (by omega) ha hsz hne hc hf hn hn2
 rw [show((a-1:Nat):Int)=(a:Int)-1 by omega,show((a+1:Nat):Int)=(a:Int)+1 by omega] at hm
 have HM:=Lib.hid hm
 clear hm hr hl hc hf
 go_enter Tryz.func284,Tryz.ntmps284
 go_wp2_with fail
 refine HM.out.mono ?_
 rintro e w1 ⟨x1,m1,rfl,hx1,hm1,hm2,hB1⟩
 have HB1:=Lib.hid hB1
 clear hB1
 go_wp2
 go_ret
 exact⟨x1,m1,rfl,by omega,hm1,by omega,HB1.out⟩

theorem BoxAt.keeps {w w':World}{o:Obj}{m:Int}(h:BoxAt (w.alloc o) w' w.heap.size m):Keeps w w':=by
 have h1:Upd (fun k=>k=w.heap.size) w w':=((Upd.refl _ w).alloc o).trans' h.upd
 exact h1.keeps (fun k hk=>by omega)

theorem choose_calls (blk cap len a b:Nat)(d:Array Int)(w:World)(hr:RowAt w blk cap d)(hl:d.size=len)(hab:a+13≤b)(hb:b≤len)(hsz:len≤1048576) :
  Calls Tryz.prog 249 #[.slice (some ⟨blk,0,none⟩) len cap,.int .i64 a,.int .i64 b] w fun e w'=>
   ∃ (p:Nat) (h:Int),e=.returned (.tuple #[.int .i64 p,.int .i64 h])∧a≤p∧p<b∧(h=0∨h=1∨h=2)∧Keeps w w':=by
 have hne:blk≠w.heap.size:=by have:=hr.lt;omega
 obtain⟨q,hq⟩:∃ q:Nat,q=(b-a) / 4:=⟨_,rfl⟩
 have q1:3≤q:=by omega
 have q2:4*q≤b-a:=by omega
 have hqi:((b:Int)-(a:Int)) / 4=(q:Int):=by omega
 have HQ:=Lib.hid hq
 have HR:=Lib.hid hr
 have HL:=Lib.hid hl
 clear hq hr hl
 have h8:(8:Int)≤(b:Int)-(a:Int):=by omega
 have c1:(w.alloc (.cells #[.int .i64 0] 3)).cell? ⟨w.heap.size,0,none⟩=some (.int .i64 0):=by simp [go_sem]
 have c2:(w.alloc (.cells #[.int .i64 0] 3)).frozen? ⟨w.heap.size,0,none⟩=false:=by simp [go_sem]
 have HR2:Hid (RowAt (w.alloc (.cells #[.int .i64 0] 3)) blk cap d):=Lib.hid (HR.out.keep (G:=fun _=>False) ((Upd.refl _ w).alloc _) (fun h=>h))
 have C1:=Lib.hid c1
 have C2:=Lib.hid c2
 clear c1 c2
 by_cases h50:(50:Int)≤(b:Int)-(a:Int)
 ·have e1:((a+q:Nat):Int)=(a:Int)+(q:Int):=by omega
  have e2:((a+q*2:Nat):Int)=(a:Int)+(q:Int)*2:=by omega
  have e3:((a+q*3:Nat):Int)=(a:Int)+(q:Int)*3:=by omega
  have m1:=adjacent_calls blk cap len (a+q) w.heap.size 0 d _ HR2.out HL.out (by omega) (by omega) hsz hne C1.out C2.out (by omega) (by omega)
  rw [e1] at m1
  have M1:=Lib.hid m1
  have E2:=Lib.hid e2
  have E3:=Lib.hid e3
  clear m1 e1 e2 e3
  go_enter Tryz.func249,Tryz.ntmps249
  go_wp2_with fail
  refine M1.out.mono ?_
  rintro e w1 ⟨x1,n1,rfl,hx1,hn1,hn1',hB1⟩
  have m2:=adjacent_calls blk cap len (a+q*2) w.heap.size n1 d w1 (HR2.out.box hB1 hne) HL.out (by omega) (by omega) hsz hne hB1.cell hB1.free hn1 (by omega)
  rw [E2.out] at m2
  have M2:=Lib.hid m2
  have HB1:=Lib.hid hB1
  clear m2 hB1
  go_wp2_with fail
  refine M2.out.mono ?_
  rintro e w2 ⟨x2,n2,rfl,hx2,hn2,hn2',hB2⟩
  have hB2:=HB1.out.trans hB2
  have m3:=adjacent_calls blk cap len (a+q*3) w.heap.size n2 d w2 (HR2.out.box hB2 hne) HL.out (by omega) (by omega) hsz hne hB2.cell hB2.free hn2 (by omega)
  rw [E3.out] at m3
  have M3:=Lib.hid m3
  have HB2:=Lib.hid hB2
  clear m3 hB2
  go_wp2_with fail
  refine M3.out.mono ?_
  rintro e w3 ⟨x3,n3,rfl,hx3,hn3,hn3',hB3⟩
  have hB3:=HB2.out.trans hB3
  have m4:=median_calls blk cap len x1 x2 x3 w.heap.size n3 d w3 (HR2.out.box hB3 hne) HL.out (by omega) (by omega) (by omega) hsz hne hB3.cell hB3.free hn3 (by omega)
  have M4:=Lib.hid m4
  have HB3:=Lib.hid hB3
  clear m4 hB3
  go_wp2_with fail
  refine M4.out.mono ?_
  rintro e w4 ⟨x,n4,rfl,hx,hn4,hn4',hB4⟩
  have HB4:=Lib.hid (HB3.out.trans hB4)
  clear hB4
  have lx:x<b:=by omega
  have lx2:a≤x:=by omega
  have hcx:=HB4.out.cell
  clear hne
  go_wp2
  all_goals refine bodyPost_ret (results_tmp2 rfl _ _ _) rfl ?_
  ·exact⟨x,1,rfl,lx2,lx,by omega,HB4.out.keeps⟩
  ·exact⟨x,2,rfl,lx2,lx,by omega,HB4.out.keeps⟩
  ·exact⟨x,0,rfl,lx2,lx,by omega,HB4.out.keeps⟩
 ·have e1:((a+q:Nat):Int)=(a:Int)+(q:Int):=by omega
  have e2:((a+q*2:Nat):Int)=(a:Int)+(q:Int)*2:=by omega
  have e3:((a+q*3:Nat):Int)=(a:Int)+(q:Int)*3:=by omega
  have m4:=median_calls blk cap len (a+q) (a+q*2) (a+q*3) w.heap.size 0 d _ HR2.out HL.out (by omega) (by omega) (by omega) hsz hne C1.out C2.out (by omega) (by omega)
  rw [e1,e2,e3] at m4
  have M4:=Lib.hid m4
  clear m4 e1 e2 e3
  go_enter Tryz.func249,Tryz.ntmps249
  go_wp2_with fail
  refine M4.out.mono ?_
  rintro e w4 ⟨x,n4,rfl,hx,hn4,hn4',hB4⟩
  have HB4:=Lib.hid hB4
  clear hB4
  have lx:x<b:=by omega
  have lx2:a≤x:=by omega
  have hcx:=HB4.out.cell
  clear hne
  go_wp2
  all_goals refine bodyPost_ret (results_tmp2 rfl _ _ _) rfl ?_
  ·exact⟨x,1,rfl,lx2,lx,by omega,HB4.out.keeps⟩
  ·exact⟨x,0,rfl,lx2,lx,by omega,HB4.out.keeps⟩

end Go.Proofs.YtpgcbmbnognieaaGreat
