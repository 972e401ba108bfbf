/-
  slices.Sort at uint32, part 1: how the row lies, cmp.Less, insertionSortOrdered.
-/
import Derived.Test.YtafkamlhimkbmaaGreatPSFindA
import Derived.BigRegion
import Derived.CellFam
import Derived.IntWalk
namespace Go.Proofs.YtafkamlhimkbmaaGreat
set_option maxRecDepth 1000000
set_option maxHeartbeats 8000000
set_option linter.unusedSimpArgs false
set_option linter.unusedVariables false
open Go.RowKit Go.Sort

def bh (w:World)(q cap:Nat)(d:Array Int):Prop:=
 ∃j:Array Value,w.heap[q]?=some (.cells j 50 (0,0))∧j.size=cap∧d.size≤cap∧∀q,q<d.size→j[q]?=some (.int .u32 d[q]!)

structure aA (w wr:World)(blk cap:Nat)(d:Array Int):Prop where
 av:ae (fun k=>k=blk) w wr
 row:bh wr blk cap d

theorem bh.cell {w:World}{q cap:Nat}{d:Array Int}(h:bh w q cap d):∀j,j<d.size→w.cell? ⟨q,j,none⟩=some (.int .u32 d[j]!):=by
 obtain⟨z,s,_,_,t⟩:=h;intro j z;rw[cell_of_row w q j _ _ _ s];exact t j z

theorem bh.frozen {w:World}{j cap:Nat}{d:Array Int}(h:bh w j cap d):∀q,w.frozen? ⟨j,q,none⟩=false:=by
 obtain⟨j,s,_⟩:=h;intro q;unfold World.frozen?;rw[s];rfl

theorem bh.lt {w:World}{j cap:Nat}{d:Array Int}(h:bh w j cap d):j<w.heap.size:=by
 obtain⟨q,j,_⟩:=h;exact aN j

theorem bh.a5 {G:Nat→Prop}{w w':World}{j cap:Nat}{d:Array Int}(h:bh w j cap d)(A:ae G w w')(z:¬G j):bh w' j cap d:=by
 obtain⟨s,q,t⟩:=h;exact⟨s,(A.block j (aN q) z).trans q,t⟩

theorem AZ (d:Array Int)(i q j:Nat)(hi:i<d.size)(z:q<d.size):(swp d i q)[j]! = if j = q then d[i]! else if j = i then d[q]! else d[j]!:=by
 by_cases s:j=q;·subst s;rw[if_pos rfl];exact swp_right d i j z
 ·rw[if_neg s];by_cases t:j=i;·subst t;rw[if_pos rfl];exact swp_left d j q hi s
  ·rw[if_neg t];exact swp_other d i q j t s

theorem bh.ca {w:World}{q cap:Nat}{d:Array Int}(h:bh w q cap d)(i j:Nat)(hi:i<d.size)(N:j<d.size) :
  bh ((w.setCell ⟨q,i,none⟩ (.int .u32 d[j]!)).setCell ⟨q,j,none⟩ (.int .u32 d[i]!)) q cap (swp d i j):=by
 obtain⟨I,J,A,K,L⟩:=h
 refine⟨(I.setIfInBounds i (.int .u32 d[j]!)).setIfInBounds j (.int .u32 d[i]!),?_,by simp[A],by rw[size_swp];exact K,?_⟩
 ·have I:=heap_setCell_same w q i _ _ (.int .u32 d[j]!) J;exact heap_setCell_same _ q j _ _ (.int .u32 d[i]!) I
 ·intro t E;rw[size_swp]at E;rw[AZ d i j t hi N];simp only[Array.getElem?_setIfInBounds,Array.size_setIfInBounds,A];by_cases s:t=j;·subst s;simp;omega
  ·by_cases z:t=i;·subst z;simp[s,Ne.symm s];omega
   ·simp[s,z,Ne.symm s,Ne.symm z,L t E]

theorem aA.ca {w wr:World}{j cap:Nat}{d:Array Int}(h:aA w wr j cap d)(n:Nat)(i q:Nat)(hi:i<d.size)(s:q<d.size) :
  aA w (((wr.drewN n).setCell ⟨j,i,none⟩ (.int .u32 d[q]!)).setCell ⟨j,q,none⟩ (.int .u32 d[i]!)) j cap (swp d i q):=
 ⟨((h.av.drewN n).setCell (p:=⟨j,i,none⟩) (Or.inl rfl) _).setCell (p:=⟨j,q,none⟩) (Or.inl rfl) _,bh.ca (w:=wr.drewN n) h.row i q hi s⟩

theorem aA.drewN {w wr:World}{j cap:Nat}{d:Array Int}(h:aA w wr j cap d)(n:Nat):aA w (wr.drewN n) j cap d:=⟨h.av.drewN n,h.row⟩

theorem aA.self {w:World}{j cap:Nat}{d:Array Int}(h:bh w j cap d):aA w w j cap d:=⟨ae.refl _ _,h⟩

theorem aA.trans {w w1 t:World}{j cap:Nat}{d q:Array Int}(h:aA w w1 j cap d)(s:aA w1 t j cap q):aA w t j cap q:=⟨h.av.a' s.av,s.row⟩

theorem wM (x:Int)(w:World):Calls Tryz.prog 256 #[.int .u32 x] w fun e w'=>e=.returned (.bool false)∧w'=w:=by
 go_enter Tryz.func256,Tryz.ntmps256
 go_wp2
 go_ret
 exact⟨rfl,rfl⟩

theorem aO (x y:Int)(w:World):Calls Tryz.prog 222 #[.int .u32 x,.int .u32 y] w fun e w'=>e=.returned (.bool (ltInt x y))∧w'=w:=by
 go_enter Tryz.func222,Tryz.ntmps222
 go_wp2_with (go_at_call 256;refine(wM _ _).mono ?_;rintro e w' ⟨rfl,rfl⟩)
 all_goals go_ret
 all_goals(refine⟨?_,rfl⟩)
 all_goals simp_all [ltInt]

theorem wF (a j:Nat)(d:Array Int)(s:a<j)(q:ltInt d[j]! d[j-1]! = true):insInner ltInt a j d = insInner ltInt a (j-1) (swp d j (j-1)):=by
 obtain⟨k,rfl⟩:∃k,j=k+1:=⟨j-1,by omega⟩;simp only[Nat.add_sub_cancel]at q ⊢;rw[insInner];simp[s,q]

theorem pK (a j:Nat)(d:Array Int)(h:j≤a∨ltInt d[j]! d[j-1]! = false):insInner ltInt a j d = d:=by
 cases j with
 |zero=>rw[insInner]
 |succ k=>
  rw[insInner];simp only[Nat.add_sub_cancel]at h;rcases h with h|h;·simp[show¬k+1 > a by omega]
  ·simp[h]

theorem pL (a b i:Nat)(d:Array Int)(h:i<b):insOuter ltInt a b i d=insOuter ltInt a b (i+1) (insInner ltInt a i d):=by rw[insOuter,if_pos h]

theorem wG (a b i:Nat)(d:Array Int)(h:¬i<b):insOuter ltInt a b i d=d:=by rw[insOuter,if_neg h]

theorem dV (b:Bool):b=false∨b=true:=by cases b<;>simp

theorem pM (t cap len a b:Nat)(d:Array Int)(w:World)(U:bh w t cap d)(J:d.size=len)(Z:a≤b)(ad:b≤len)(a3:len≤1048576) :
  Calls Tryz.prog 216 #[.slice (some ⟨t,0,none⟩) len cap,.int .i64 a,.int .i64 b] w fun e w'=>
   e=.returned (.tuple #[])∧aA w w' t cap (insertionSort ltInt d a b):=by
 go_enter Tryz.func216,Tryz.ntmps216
 go_wp2
 go_loopg [6] (b+1) (fun gk Z wr=>∃(i:Nat) (s:Array Int),gk+i=b+1+(a+1)∧Z=.int .i64 (i:Int)∧a<i∧i≤b+1∧s.size=len∧aA w wr t cap s∧insOuter ltInt a b i s=insOuter ltInt a b (a+1) d)
 case atStart=>exact⟨a+1,d,by omega,by go_num,by omega,by omega,J,aA.self U,rfl⟩
 case round=>
  obtain⟨i,s,a5,rfl,a3,a6,ad,hS,Z⟩:=hrel;have W:=Lib.hid hS;have L:=Lib.hid Z;have a3:=Lib.hid U;have a3:=Lib.hid J;have aw:=Lib.hid ad;clear hS Z U J ad;by_cases T:i<b
  ·obtain⟨X,rfl⟩:∃x:Nat,x=gk:=⟨_,rfl⟩;obtain⟨a7,rfl⟩:∃x:World,x=wr:=⟨_,rfl⟩;go_wp2
   go_loopg [7] i (fun J U Z=>∃(j:Nat) (q:Array Int),J=j∧U=.int .i64 (j:Int)∧a≤j∧j≤i∧q.size=len∧aA w Z t cap q∧insInner ltInt a j q=insInner ltInt a i s)
   case atStart=>exact⟨i,s,rfl,rfl,by omega,Nat.le_refl _,aw.out,W.out,rfl⟩
   case round=>
    obtain⟨j,q,a4,rfl,J,U,ab,A,Y⟩:=hrel;obtain⟨g,I⟩:∃g:Nat→Int,∀J,g J=q[J]!:=⟨fun J=>q[J]!,fun _=>rfl⟩;have J:j<len:=(by omega);have J:wr.cell? ⟨t,j,none⟩=some (.int .u32 (g j)):=(by rw[I];exact A.row.cell j (by omega));have J:wr.cell? ⟨t,j-1,none⟩=some (.int .u32 (g (j-1))):=(by rw[I];exact A.row.cell (j-1) (by omega));have J:wr.frozen? ⟨t,j,none⟩=false:=A.row.frozen j;have J:wr.frozen? ⟨t,j-1,none⟩=false:=A.row.frozen (j-1);have z:=Lib.hid I;have O:=Lib.hid A;have K:=Lib.hid Y;have E:=Lib.hid ab;clear I A Y ab;by_cases a2:a<j
    ·have t:((j:Int)-1).toNat=j-1:=(by omega);have t:(0:Int)≤(j:Int)-1:=(by omega);have t:(j:Int)-1<(len:Int):=(by omega);have t:(j:Int)<(len:Int):=(by omega);have am:(a:Int)<(j:Int):=(by omega);rcases dV (ltInt (g j) (g (j-1)))with S|S
     ·have N:Hid (insOuter ltInt a b (i+1) q=insOuter ltInt a b (a+1) d):=Lib.hid (by
       rw[←L.out,pL a b i s T,←K.out,pK a j q (.inr (by rw[←z.out,←z.out];exact S))])
      go_wp2_with fail
      go_quiet ((go_at_call 222;exact Calls.quiet_of_same (aO _ _ _)))
      go_wp2
      go_roundg (X-1)
      case rel=>exact⟨i+1,q,by omega,by go_num,by omega,by omega,E.out,O.out.drewN nq,N.out⟩
      case measure=>omega
     ·have av:Hid (insInner ltInt a (j-1) (swp q j (j-1))=insInner ltInt a i s):=Lib.hid (by
       rw[←K.out,wF a j q a2 (by rw[←z.out,←z.out];exact S)])
      have t:=fun n=>O.out.ca n j (j-1) (by rw[E.out];omega) (by rw[E.out];omega);rw[←z.out,←z.out]at t;have a1:=Lib.hid t;clear t;go_wp2_with fail
      go_quiet ((go_at_call 222;exact Calls.quiet_of_same (aO _ _ _)))
      go_wp2
      go_region
      all_goals go_wp2
      go_roundg (gk-1)
      case rel=>exact⟨j-1,swp q j (j-1),by omega,by congr 1;omega,by omega,by omega,by rw[size_swp];exact E.out,a1.out (nq+1),av.out⟩
      case measure=>omega
    ·have am:decide ((a:Int)<(j:Int))=false:=decide_eq_false (by omega)
     have N:Hid (insOuter ltInt a b (i+1) q=insOuter ltInt a b (a+1) d):=Lib.hid (by
      rw[←L.out,pL a b i s T,←K.out,pK a j q (.inl (by omega))])
     go_wp2_with fail
     go_quiet ((go_at_call 222;exact Calls.quiet_of_same (aO _ _ _)))
     go_wp2
     go_roundg (X-1)
     case rel=>exact⟨i+1,q,by omega,by go_num,by omega,by omega,E.out,O.out.drewN nq,N.out⟩
     case measure=>omega
  ·have am:¬(i:Int)<(b:Int):=(by omega);go_wp2
   go_end0
   exact⟨rfl,by unfold insertionSort;rw[←L.out,wG a b i s T];exact W.out⟩

theorem Ax {hi F root:Nat}(d:Array Int)(h:hi≤2*root+1):siftDown ltInt hi F root d=d:=by rw[siftDown,dif_pos h]

theorem nV {hi F root c:Nat}(d:Array Int)(h:2*root+1<hi)(z:(2*root+2<hi∧ltInt d[F+(2*root+1)]! d[F+(2*root+2)]! = true∧c = 2*root+2)∨((2*root+2<hi→ltInt d[F+(2*root+1)]! d[F+(2*root+2)]! = false)∧c = 2*root+1)) :
  siftDown ltInt hi F root d = if ltInt d[F+root]! d[F+c]! = true then siftDown ltInt hi F c (swp d (F+root) (F+c))else d:=by
 rw[siftDown,dif_neg (by omega),show F+(2*root+1)+1=F+(2*root+2) by omega]
 rcases z with⟨q,s,rfl⟩|⟨q,rfl⟩
 ·have j:2*root+1+1<hi:=by omega
  rw[s];simp[j];cases ltInt d[F+root]! d[F+(2*root+2)]!<;>simp
 ·have j:(decide (2*root+1+1<hi)&&ltInt d[F+(2*root+1)]! d[F+(2*root+2)]!)=false:=by
   by_cases t:2*root+2<hi;·simp[q t]
   ·simp[show¬2*root+1+1<hi by omega]
  rw[j];simp;cases ltInt d[F+root]! d[F+(2*root+1)]!<;>simp

theorem nT (q cap len lo hi first:Nat)(d:Array Int)(w:World)(be:bh w q cap d)(bb:d.size=len)(a2:lo≤hi)(bq:first+hi≤len)(bs:len≤1048576) :
  Calls Tryz.prog 251 #[.slice (some ⟨q,0,none⟩) len cap,.int .i64 lo,.int .i64 hi,.int .i64 first] w fun e w'=>
   e=.returned (.tuple #[])∧aA w w' q cap (siftDown ltInt hi first lo d):=by
 go_enter Tryz.func251,Tryz.ntmps251
 go_wp2
 go_loopg [8] (hi-lo) (fun gk bq wr=>∃(root:Nat) (A:Array Int),hi-root≤gk∧bq=.int .i64 (root:Int)∧root≤hi∧A.size=len∧aA w wr q cap A∧siftDown ltInt hi first root A=siftDown ltInt hi first lo d)
 case atStart=>exact⟨lo,d,by omega,rfl,a2,bb,aA.self be,rfl⟩
 case round=>
  obtain⟨root,A,br,rfl,a2,bg,hS,a8⟩:=hrel;obtain⟨g,a'⟩:∃g:Nat→Int,∀a2,g a2=A[a2]!:=⟨fun a2=>A[a2]!,fun _=>rfl⟩;have s:=Lib.hid a';have L:=Lib.hid hS;have Z:=Lib.hid a8;have z:=Lib.hid bg;clear a' hS a8 bg be bb;by_cases bi:hi≤2*root+1
  ·have bn:(hi:Int)≤2*(root:Int)+1:=(by omega);go_wp2
   first|go_end0|refine bodyPost_ret (results_none rfl _ _ _) rfl ?_
   exact⟨rfl,by rw[←Z.out,Ax A bi];exact L.out⟩
  ·have bn:2*(root:Int)+1<(hi:Int):=(by omega);have a2:((first:Int)+(2*(root:Int)+1)).toNat=first+(2*root+1):=by omega
   have a2:(0:Int)≤(first:Int)+(2*(root:Int)+1):=(by omega);have a2:(first:Int)+(2*(root:Int)+1)<(len:Int):=(by omega);have a2:((first:Int)+(root:Int)).toNat=first+root:=by omega
   have a2:(0:Int)≤(first:Int)+(root:Int):=(by omega);have a2:(first:Int)+(root:Int)<(len:Int):=(by omega);by_cases a7:2*root+2<hi
   ·have bp:2*(root:Int)+1+1<(hi:Int):=(by omega);have a2:((first:Int)+(2*(root:Int)+1)+1).toNat=first+(2*root+2):=by omega
    have a2:(0:Int)≤(first:Int)+(2*(root:Int)+1)+1:=(by omega);have a2:(first:Int)+(2*(root:Int)+1)+1<(len:Int):=(by omega);have a2:((first:Int)+(2*(root:Int)+1+1)).toNat=first+(2*root+2):=by omega
    have a2:(0:Int)≤(first:Int)+(2*(root:Int)+1+1):=(by omega);have a2:(first:Int)+(2*(root:Int)+1+1)<(len:Int):=(by omega);have am:wr.cell? ⟨q,first+(2*root+1),none⟩=some (.int .u32 (g (first+(2*root+1)))):=(by rw[s.out];exact L.out.row.cell (first+(2*root+1)) (by rw[z.out];omega));have aw:wr.frozen? ⟨q,first+(2*root+1),none⟩=false:=L.out.row.frozen (first+(2*root+1));have av:wr.cell? ⟨q,first+(2*root+2),none⟩=some (.int .u32 (g (first+(2*root+2)))):=(by rw[s.out];exact L.out.row.cell (first+(2*root+2)) (by rw[z.out];omega));have a1:wr.frozen? ⟨q,first+(2*root+2),none⟩=false:=L.out.row.frozen (first+(2*root+2));rcases dV (ltInt (g (first+(2*root+1))) (g (first+(2*root+2))))with ab|ab
    ·skip
     have Y:=nV (hi:=hi) (root:=root) (F:=first) (c:=2*root+1) A (by omega) (.inr ⟨fun h=>by rw[←s.out,←s.out];exact ab,rfl⟩);have S:=Lib.hid Y;clear Y;rcases dV (ltInt (g (first+root)) (g (first+(2*root+1))))with O|O
     ·have I:ltInt A[first+root]! A[first+(2*root+1)]! = false:=(by rw[←s.out,←s.out];exact O);have K:Hid (siftDown ltInt hi first lo d=A):=Lib.hid (by rw[←Z.out,S.out,if_neg (by rw[I];simp)]);clear I;go_wp2_with fail
      go_quiet ((go_at_call 222;exact Calls.quiet_of_same (aO _ _ _)))
      go_wp2_with fail
      have j:=L.out.drewN nq;generalize wr.drewN nq=t at j ⊢;clear nq;clear am av aw a1 ab;have j:=Lib.hid j;have T:t.cell? ⟨q,first+root,none⟩=some (.int .u32 (g (first+root))):=(by rw[s.out];exact j.out.row.cell (first+root) (by rw[z.out];omega));have W:t.frozen? ⟨q,first+root,none⟩=false:=j.out.row.frozen (first+root);have U:t.cell? ⟨q,first+(2*root+1),none⟩=some (.int .u32 (g (first+(2*root+1)))):=(by rw[s.out];exact j.out.row.cell (first+(2*root+1)) (by rw[z.out];omega));have X:t.frozen? ⟨q,first+(2*root+1),none⟩=false:=j.out.row.frozen (first+(2*root+1));go_quiet ((go_at_call 222;exact Calls.quiet_of_same (aO _ _ _)))
      go_wp2
      first|go_end0|refine bodyPost_ret (results_none rfl _ _ _) rfl ?_
      exact⟨rfl,by rw[K.out];exact j.out.drewN nq⟩
     ·have I:ltInt A[first+root]! A[first+(2*root+1)]! = true:=(by rw[←s.out,←s.out];exact O);have K:Hid (siftDown ltInt hi first (2*root+1) (swp A (first+root) (first+(2*root+1)))=siftDown ltInt hi first lo d):=Lib.hid (by rw[←Z.out,S.out,if_pos I]);clear I;go_wp2_with fail
      go_quiet ((go_at_call 222;exact Calls.quiet_of_same (aO _ _ _)))
      go_wp2_with fail
      have j:=L.out.drewN nq;generalize wr.drewN nq=t at j ⊢;clear nq;clear am av aw a1 ab;have j:=Lib.hid j;have T:t.cell? ⟨q,first+root,none⟩=some (.int .u32 (g (first+root))):=(by rw[s.out];exact j.out.row.cell (first+root) (by rw[z.out];omega));have W:t.frozen? ⟨q,first+root,none⟩=false:=j.out.row.frozen (first+root);have U:t.cell? ⟨q,first+(2*root+1),none⟩=some (.int .u32 (g (first+(2*root+1)))):=(by rw[s.out];exact j.out.row.cell (first+(2*root+1)) (by rw[z.out];omega));have X:t.frozen? ⟨q,first+(2*root+1),none⟩=false:=j.out.row.frozen (first+(2*root+1));go_quiet ((go_at_call 222;exact Calls.quiet_of_same (aO _ _ _)))
      go_wp2_with fail
      have E:=j.out.drewN nq;generalize t.drewN nq=J at E ⊢;clear nq T U W X;have E:=Lib.hid E;have a3:J.cell? ⟨q,first+root,none⟩=some (.int .u32 (g (first+root))):=(by rw[s.out];exact E.out.row.cell (first+root) (by rw[z.out];omega));have a5:J.frozen? ⟨q,first+root,none⟩=false:=E.out.row.frozen (first+root);have a4:J.cell? ⟨q,first+(2*root+1),none⟩=some (.int .u32 (g (first+(2*root+1)))):=(by rw[s.out];exact E.out.row.cell (first+(2*root+1)) (by rw[z.out];omega));have a6:J.frozen? ⟨q,first+(2*root+1),none⟩=false:=E.out.row.frozen (first+(2*root+1));have N:=fun n=>E.out.ca n (first+root) (first+(2*root+1)) (by rw[z.out];omega) (by rw[z.out];omega);rw[←s.out,←s.out]at N;have ad:=Lib.hid N;clear N;go_region
      all_goals go_wp2
      go_roundg (gk-1)
      case rel=>exact⟨2*root+1,_,by omega,by first|rfl|go_num|(congr 1;omega),by omega,by rw[size_swp];exact z.out,ad.out 1,K.out⟩
      case measure=>omega
    ·skip
     have Y:=nV (hi:=hi) (root:=root) (F:=first) (c:=2*root+2) A (by omega) (.inl ⟨a7,by rw[←s.out,←s.out];exact ab,rfl⟩);have S:=Lib.hid Y;clear Y;rcases dV (ltInt (g (first+root)) (g (first+(2*root+2))))with O|O
     ·have I:ltInt A[first+root]! A[first+(2*root+2)]! = false:=(by rw[←s.out,←s.out];exact O);have K:Hid (siftDown ltInt hi first lo d=A):=Lib.hid (by rw[←Z.out,S.out,if_neg (by rw[I];simp)]);clear I;go_wp2_with fail
      go_quiet ((go_at_call 222;exact Calls.quiet_of_same (aO _ _ _)))
      go_wp2_with fail
      have j:=L.out.drewN nq;generalize wr.drewN nq=t at j ⊢;clear nq;clear am av aw a1 ab;have j:=Lib.hid j;have T:t.cell? ⟨q,first+root,none⟩=some (.int .u32 (g (first+root))):=(by rw[s.out];exact j.out.row.cell (first+root) (by rw[z.out];omega));have W:t.frozen? ⟨q,first+root,none⟩=false:=j.out.row.frozen (first+root);have U:t.cell? ⟨q,first+(2*root+2),none⟩=some (.int .u32 (g (first+(2*root+2)))):=(by rw[s.out];exact j.out.row.cell (first+(2*root+2)) (by rw[z.out];omega));have X:t.frozen? ⟨q,first+(2*root+2),none⟩=false:=j.out.row.frozen (first+(2*root+2));go_quiet ((go_at_call 222;exact Calls.quiet_of_same (aO _ _ _)))
      go_wp2
      first|go_end0|refine bodyPost_ret (results_none rfl _ _ _) rfl ?_
      exact⟨rfl,by rw[K.out];exact j.out.drewN nq⟩
     ·have I:ltInt A[first+root]! A[first+(2*root+2)]! = true:=(by rw[←s.out,←s.out];exact O);have K:Hid (siftDown ltInt hi first (2*root+2) (swp A (first+root) (first+(2*root+2)))=siftDown ltInt hi first lo d):=Lib.hid (by rw[←Z.out,S.out,if_pos I]);clear I;go_wp2_with fail
      go_quiet ((go_at_call 222;exact Calls.quiet_of_same (aO _ _ _)))
      go_wp2_with fail
      have j:=L.out.drewN nq;generalize wr.drewN nq=t at j ⊢;clear nq;clear am av aw a1 ab;have j:=Lib.hid j;have T:t.cell? ⟨q,first+root,none⟩=some (.int .u32 (g (first+root))):=(by rw[s.out];exact j.out.row.cell (first+root) (by rw[z.out];omega));have W:t.frozen? ⟨q,first+root,none⟩=false:=j.out.row.frozen (first+root);have U:t.cell? ⟨q,first+(2*root+2),none⟩=some (.int .u32 (g (first+(2*root+2)))):=(by rw[s.out];exact j.out.row.cell (first+(2*root+2)) (by rw[z.out];omega));have X:t.frozen? ⟨q,first+(2*root+2),none⟩=false:=j.out.row.frozen (first+(2*root+2));go_quiet ((go_at_call 222;exact Calls.quiet_of_same (aO _ _ _)))
      go_wp2_with fail
      have E:=j.out.drewN nq;generalize t.drewN nq=J at E ⊢;clear nq T U W X;have E:=Lib.hid E;have a3:J.cell? ⟨q,first+root,none⟩=some (.int .u32 (g (first+root))):=(by rw[s.out];exact E.out.row.cell (first+root) (by rw[z.out];omega));have a5:J.frozen? ⟨q,first+root,none⟩=false:=E.out.row.frozen (first+root);have a4:J.cell? ⟨q,first+(2*root+2),none⟩=some (.int .u32 (g (first+(2*root+2)))):=(by rw[s.out];exact E.out.row.cell (first+(2*root+2)) (by rw[z.out];omega));have a6:J.frozen? ⟨q,first+(2*root+2),none⟩=false:=E.out.row.frozen (first+(2*root+2));have N:=fun n=>E.out.ca n (first+root) (first+(2*root+2)) (by rw[z.out];omega) (by rw[z.out];omega);rw[←s.out,←s.out]at N;have ad:=Lib.hid N;clear N;go_region
      all_goals go_wp2
      go_roundg (gk-1)
      case rel=>exact⟨2*root+2,_,by omega,by first|rfl|go_num|(congr 1;omega),by omega,by rw[size_swp];exact z.out,ad.out 1,K.out⟩
      case measure=>omega
   ·have bp:decide (2*(root:Int)+1+1<(hi:Int))=false:=decide_eq_false (by omega);have Y:=nV (hi:=hi) (root:=root) (F:=first) (c:=2*root+1) A (by omega) (.inr ⟨fun h=>absurd h a7,rfl⟩);have S:=Lib.hid Y;clear Y;rcases dV (ltInt (g (first+root)) (g (first+(2*root+1))))with O|O
    ·have I:ltInt A[first+root]! A[first+(2*root+1)]! = false:=(by rw[←s.out,←s.out];exact O);have K:Hid (siftDown ltInt hi first lo d=A):=Lib.hid (by rw[←Z.out,S.out,if_neg (by rw[I];simp)]);clear I;go_wp2_with fail
     go_quiet ((go_at_call 222;exact Calls.quiet_of_same (aO _ _ _)))
     go_wp2_with fail
     have j:=L.out.drewN nq;generalize wr.drewN nq=t at j ⊢;clear nq;have j:=Lib.hid j;have T:t.cell? ⟨q,first+root,none⟩=some (.int .u32 (g (first+root))):=(by rw[s.out];exact j.out.row.cell (first+root) (by rw[z.out];omega));have W:t.frozen? ⟨q,first+root,none⟩=false:=j.out.row.frozen (first+root);have U:t.cell? ⟨q,first+(2*root+1),none⟩=some (.int .u32 (g (first+(2*root+1)))):=(by rw[s.out];exact j.out.row.cell (first+(2*root+1)) (by rw[z.out];omega));have X:t.frozen? ⟨q,first+(2*root+1),none⟩=false:=j.out.row.frozen (first+(2*root+1));go_quiet ((go_at_call 222;exact Calls.quiet_of_same (aO _ _ _)))
     go_wp2
     first|go_end0|refine bodyPost_ret (results_none rfl _ _ _) rfl ?_
     exact⟨rfl,by rw[K.out];exact j.out.drewN nq⟩
    ·have I:ltInt A[first+root]! A[first+(2*root+1)]! = true:=(by rw[←s.out,←s.out];exact O);have K:Hid (siftDown ltInt hi first (2*root+1) (swp A (first+root) (first+(2*root+1)))=siftDown ltInt hi first lo d):=Lib.hid (by rw[←Z.out,S.out,if_pos I]);clear I;go_wp2_with fail
     go_quiet ((go_at_call 222;exact Calls.quiet_of_same (aO _ _ _)))
     go_wp2_with fail
     have j:=L.out.drewN nq;generalize wr.drewN nq=t at j ⊢;clear nq;have j:=Lib.hid j;have T:t.cell? ⟨q,first+root,none⟩=some (.int .u32 (g (first+root))):=(by rw[s.out];exact j.out.row.cell (first+root) (by rw[z.out];omega));have W:t.frozen? ⟨q,first+root,none⟩=false:=j.out.row.frozen (first+root);have U:t.cell? ⟨q,first+(2*root+1),none⟩=some (.int .u32 (g (first+(2*root+1)))):=(by rw[s.out];exact j.out.row.cell (first+(2*root+1)) (by rw[z.out];omega));have X:t.frozen? ⟨q,first+(2*root+1),none⟩=false:=j.out.row.frozen (first+(2*root+1));go_quiet ((go_at_call 222;exact Calls.quiet_of_same (aO _ _ _)))
     go_wp2_with fail
     have E:=j.out.drewN nq;generalize t.drewN nq=J at E ⊢;clear nq T U W X;have E:=Lib.hid E;have a3:J.cell? ⟨q,first+root,none⟩=some (.int .u32 (g (first+root))):=(by rw[s.out];exact E.out.row.cell (first+root) (by rw[z.out];omega));have a5:J.frozen? ⟨q,first+root,none⟩=false:=E.out.row.frozen (first+root);have a4:J.cell? ⟨q,first+(2*root+1),none⟩=some (.int .u32 (g (first+(2*root+1)))):=(by rw[s.out];exact E.out.row.cell (first+(2*root+1)) (by rw[z.out];omega));have a6:J.frozen? ⟨q,first+(2*root+1),none⟩=false:=E.out.row.frozen (first+(2*root+1));have N:=fun n=>E.out.ca n (first+root) (first+(2*root+1)) (by rw[z.out];omega) (by rw[z.out];omega);rw[←s.out,←s.out]at N;have ad:=Lib.hid N;clear N;go_region
     all_goals go_wp2
     go_roundg (gk-1)
     case rel=>exact⟨2*root+1,_,by omega,by first|rfl|go_num|(congr 1;omega),by omega,by rw[size_swp];exact z.out,ad.out 1,K.out⟩
     case measure=>omega

theorem nU (hi first root:Nat)(d:Array Int):(siftDown ltInt hi first root d).size=d.size:=by
 fun_induction siftDown ltInt hi first root d<;>simp_all [size_swp]

theorem vW (j cap len a b:Nat)(d:Array Int)(w:World)(a6:bh w j cap d)(a5:d.size=len)(a3:a<b)(a7:b≤len)(Z:len≤1048576) :
  Calls Tryz.prog 217 #[.slice (some ⟨j,0,none⟩) len cap,.int .i64 a,.int .i64 b] w fun e w'=>
   e=.returned (.tuple #[])∧aA w w' j cap (heapSort ltInt d a b):=by
 go_enter Tryz.func217,Tryz.ntmps217
 go_wp2
 go_loopg [9] (b-a+1) (fun gk ab wr=>∃(k:Nat) (s:Array Int),k≤gk∧k≤(b-a-1) / 2+1∧ab=.int .i64 ((k:Int)-1)∧s.size=len∧aA w wr j cap s∧heapBuild ltInt (b-a) a k s=heapBuild ltInt (b-a) a ((b-a-1) / 2+1) d)
 case atStart=>exact⟨(b-a-1) / 2+1,d,by omega,Nat.le_refl _,by congr 1;omega,a5,aA.self a6,rfl⟩
 case round=>
  obtain⟨k,s,bs,bt,rfl,a7,hS,a3⟩:=hrel;have W:=Lib.hid hS;have am:=Lib.hid a3;have U:=Lib.hid a7;clear hS a3 a7 a6 a5;cases k with
  |succ k=>
   have e:((k+1:Nat):Int)-1=(k:Int):=(by omega);rw[e];have T:Hid (heapBuild ltInt (b-a) a k (siftDown ltInt (b-a) a k s)=heapBuild ltInt (b-a) a ((b-a-1) / 2+1) d):=Lib.hid (by rw[←am.out];rfl);clear e;have z:=nT j cap len k (b-a) a s wr W.out.row U.out (by omega) (by omega) Z;rw[show((b-a:Nat):Int)=(b:Int)-(a:Int) by omega]at z;have J:=Lib.hid z;clear z;go_wp2_with fail
   refine J.out.mono ?_;rintro e a3 ⟨rfl,a3⟩;have a8:=Lib.hid (W.out.trans a3);have K:=Lib.hid (nU (b-a) a k s);clear a3;go_wp2
   go_roundg (gk-1)
   case rel=>exact⟨k,_,by omega,by omega,rfl,by rw[K.out];exact U.out,a8.out,T.out⟩
   case measure=>omega
  |zero=>
   have T:Hid (heapBuild ltInt (b-a) a ((b-a-1) / 2+1) d=s):=Lib.hid am.out.symm;have L:(((0:Nat):Int)-1)=-1:=rfl;rw[L];clear L;obtain⟨bw,rfl⟩:∃x:World,x=wr:=⟨_,rfl⟩;go_wp2_with fail
   go_loopg [10] (b-a) (fun am ab wr=>∃(k:Nat) (q:Array Int),k≤am∧k≤b-a∧ab=.int .i64 ((k:Int)-1)∧q.size=len∧aA w wr j cap q∧heapPop ltInt a k q=heapPop ltInt a (b-a) s)
   case atStart=>exact⟨b-a,s,Nat.le_refl _,Nat.le_refl _,by congr 1;omega,U.out,W.out,rfl⟩
   case round=>
    obtain⟨k,q,br,bv,rfl,ab,W,U⟩:=hrel;have I:=Lib.hid W;have av:=Lib.hid U;have A:=Lib.hid ab;clear W U ab;cases k with
    |zero=>
     have L:(((0:Nat):Int)-1)=-1:=rfl;rw[L];clear L;go_wp2
     first|go_end0|refine bodyPost_ret (results_none rfl _ _ _) rfl ?_
     exact⟨rfl,by unfold heapSort;rw[T.out,←av.out];exact I.out⟩
    |succ k=>
     have ad:Hid (heapPop ltInt a k (siftDown ltInt k a 0 (swp q a (a+k)))=heapPop ltInt a (b-a) s):=Lib.hid (by rw[←av.out];rfl);obtain⟨g,a4⟩:∃g:Nat→Int,∀s,g s=q[s]!:=⟨fun s=>q[s]!,fun _=>rfl⟩;have S:=Lib.hid a4;clear a4;have a1:wr.cell? ⟨j,a,none⟩=some (.int .u32 (g a)):=(by rw[S.out];exact I.out.row.cell a (by rw[A.out];omega));have a2:wr.frozen? ⟨j,a,none⟩=false:=I.out.row.frozen a;have s:(a:Int)<(len:Int):=(by omega);have s:=fun n=>I.out.ca n a (a+k) (by rw[A.out];omega) (by rw[A.out];omega);rw[←S.out,←S.out]at s;have aw:=Lib.hid s;clear s;rcases Nat.eq_zero_or_pos k with rfl|s
     ·have e:((0+1:Nat):Int)-1=0:=rfl;rw[e];clear e;have Y:True:=trivial;go_wp2_with fail
      go_region
      obtain⟨O,E⟩:∃x,x=((wr.setCell ⟨j,a,none⟩ (.int .u32 (g a))).setCell ⟨j,a,none⟩ (.int .u32 (g a))).drew:=⟨_,rfl⟩;have t:aA w O j cap (swp q a (a+0)):=(by rw[E];exact aw.out 1);have z:=nT j cap len 0 0 a (swp q a (a+0)) O t.row (by rw[size_swp];exact A.out) (by omega) (by omega) Z;have J:=Lib.hid z;have t:=Lib.hid t;rw[←E];clear z E a1 a2 Y;go_wp2_with fail
      refine J.out.mono ?_;rintro e bq ⟨rfl,N⟩;have X:=Lib.hid (t.out.trans N);have K:=Lib.hid (nU 0 a 0 (swp q a (a+0)));clear N;go_wp2
      go_roundg (gk-1)
      case rel=>exact⟨0,_,by omega,by omega,rfl,by rw[K.out,size_swp];exact A.out,X.out,ad.out⟩
      case measure=>omega
     ·have e:((k+1:Nat):Int)-1=(k:Int):=(by omega);rw[e];clear e;have bb:¬a+k=a:=(by omega);have be:¬k=0:=(by omega);have a':wr.cell? ⟨j,a+k,none⟩=some (.int .u32 (g (a+k))):=(by rw[S.out];exact I.out.row.cell (a+k) (by rw[A.out];omega));have Y:wr.frozen? ⟨j,a+k,none⟩=false:=I.out.row.frozen (a+k);have bg:((a:Int)+(k:Int)).toNat=a+k:=(by omega);have bi:(0:Int)≤(a:Int)+(k:Int):=(by omega);have bn:(a:Int)+(k:Int)<(len:Int):=(by omega);have bp:IntKind.i64.wrap ((a:Int)+(k:Int))=(a:Int)+(k:Int):=IntWalk.i64_in _ ⟨by omega,by omega⟩;go_wp2_with fail
      go_region
      clear bp bb be a' bg bi bn;obtain⟨O,E⟩:∃x,x=((wr.setCell ⟨j,a,none⟩ (.int .u32 (g (a+k)))).setCell ⟨j,a+k,none⟩ (.int .u32 (g a))).drew:=⟨_,rfl⟩;have t:aA w O j cap (swp q a (a+k)):=(by rw[E];exact aw.out 1);have z:=nT j cap len 0 k a (swp q a (a+k)) O t.row (by rw[size_swp];exact A.out) (by omega) (by omega) Z;have J:=Lib.hid z;have t:=Lib.hid t;rw[←E];clear z E a1 a2 Y;go_wp2_with fail
      refine J.out.mono ?_;rintro e bq ⟨rfl,N⟩;have X:=Lib.hid (t.out.trans N);have K:=Lib.hid (nU k a 0 (swp q a (a+k)));clear N;go_wp2
      go_roundg (gk-1)
      case rel=>exact⟨k,_,by omega,by omega,rfl,by rw[K.out,size_swp];exact A.out,X.out,ad.out⟩
      case measure=>omega

theorem zz (s cap len a b:Nat)(d:Array Int)(w:World)(K:bh w s cap d)(E:d.size=len)(A:a<b)(S:b≤len)(L:len≤1048576) :
  Calls Tryz.prog 220 #[.slice (some ⟨s,0,none⟩) len cap,.int .i64 a,.int .i64 b] w fun e w'=>
   e=.returned (.tuple #[])∧∃d',PermIn a b d d'∧aA w w' s cap d':=by
 go_enter Tryz.func220,Tryz.ntmps220
 go_wp2
 go_loopg [6,7] (b-a) (fun gk A L wr=>∃(i j:Nat) (q:Array Int),j-i≤gk∧a≤i∧j<b∧A=.int .i64 (i:Int)∧L=.int .i64 (j:Int)∧PermIn a b d q∧aA w wr s cap q)
 case atStart=>exact⟨a,b-1,d,by omega,Nat.le_refl _,by omega,rfl,by congr 1;omega,permIn_refl _ _ _,aA.self K⟩
 case round=>
  obtain⟨i,j,q,W,O,T,rfl,rfl,A,hS⟩:=hrel;have L:q.size=len:=A.1.trans E;have t:=Lib.hid hS;have I:=Lib.hid A;have z:=Lib.hid L;have W:=Lib.hid E;clear hS A L K E;by_cases A:i<j
  ·obtain⟨g,J⟩:∃g:Nat→Int,∀A,g A=q[A]!:=⟨fun A=>q[A]!,fun _=>rfl⟩;have A:=Lib.hid J;clear J;have E:wr.cell? ⟨s,i,none⟩=some (.int .u32 (g i)):=(by rw[A.out];exact t.out.row.cell i (by rw[z.out];omega));have E:wr.cell? ⟨s,j,none⟩=some (.int .u32 (g j)):=(by rw[A.out];exact t.out.row.cell j (by rw[z.out];omega));have E:wr.frozen? ⟨s,i,none⟩=false:=t.out.row.frozen i;have E:wr.frozen? ⟨s,j,none⟩=false:=t.out.row.frozen j;have s:(i:Int)<(len:Int):=(by omega);have s:(j:Int)<(len:Int):=(by omega);have U:(i:Int)<(j:Int):=(by omega);have s:¬j=i:=(by omega);have s:=fun n=>t.out.ca n i j (by rw[z.out];omega) (by rw[z.out];omega);rw[←A.out,←A.out]at s;have N:=Lib.hid s;clear s;go_wp2_with fail
   go_region
   all_goals go_wp2
   go_roundg (gk-1)
   case rel=>exact⟨i+1,j-1,swp q i j,by omega,by omega,by omega,by first|rfl|go_num,by congr 1;omega,permIn_trans _ _ _ _ _ I.out (swp_permIn q a b i j O (by omega) (by omega) T (by rw[z.out];exact S)),N.out 1⟩
   case measure=>omega
  ·have U:¬(i:Int)<(j:Int):=(by omega);go_wp2
   first|go_end0|refine bodyPost_ret (results_none rfl _ _ _) rfl ?_
   exact⟨rfl,q,I.out,t.out⟩

structure fM (w w':World)(sb:Nat)(n:Int):Prop where
 av:ae (fun k=>k=sb) w w'
 cell:w'.cell? ⟨sb,0,none⟩=some (.int .i64 n)
 free:w'.frozen? ⟨sb,0,none⟩=false

theorem bh.box {w w':World}{j cap q:Nat}{n:Int}{d:Array Int}(h:bh w j cap d)(s:fM w w' q n)(t:j≠q):bh w' j cap d:=h.a5 s.av t

theorem mZ (q cap len a b j:Nat)(n:Int)(d:Array Int)(w:World)(z:bh w q cap d)(K:d.size=len)(s:a<len)(N:b<len)(S:len≤1048576)(E:w.cell? ⟨j,0,none⟩=some (.int .i64 n))(J:w.frozen? ⟨j,0,none⟩=false)(L:0≤n)(O:n≤1000) :
  Calls Tryz.prog 266 #[.slice (some ⟨q,0,none⟩) len cap,.int .i64 a,.int .i64 b,.pointer (some ⟨j,0,none⟩)] w fun e w'=>
   ∃(x y:Nat) (m:Int),e=.returned (.tuple #[.int .i64 x,.int .i64 y])∧(x=a∨x=b)∧(y=a∨y=b)∧0≤m∧m≤n+1∧fM w w' j m:=by
 obtain⟨g,t⟩:∃g:Nat→Int,∀s,g s=d[s]!:=⟨fun s=>d[s]!,fun _=>rfl⟩
 have s:w.cell? ⟨q,a,none⟩=some (.int .u32 (g a)):=by rw[t];exact z.cell a (by omega)
 have s:w.cell? ⟨q,b,none⟩=some (.int .u32 (g b)):=by rw[t];exact z.cell b (by omega)
 clear t z K
 have q:(a:Int)<(len:Int):=by omega
 have q:(b:Int)<(len:Int):=by omega
 have I:=Lib.hid E
 have A:=Lib.hid J
 go_enter Tryz.func266,Tryz.ntmps266
 go_wp2_with fail
 go_quiet ((go_at_call 222;exact Calls.quiet_of_same (aO _ _ _)))
 go_wp2
 all_goals refine bodyPost_ret (results_tmp2 rfl _ _ _) rfl ?_
 ·exact⟨b,a,n+1,rfl,.inr rfl,.inl rfl,by omega,by omega,((ae.refl (fun k=>k=j) w).drewN _).setCell (p:=⟨j,0,none⟩) (Or.inl rfl) _,by simp[go_sem,E],by rw[World.frozen?_setCell];exact A.out⟩
 ·exact⟨a,b,n,rfl,.inl rfl,.inr rfl,L,by omega,(ae.refl _ _).drewN _,I.out,A.out⟩

theorem fM.trans {w w1 s:World}{q:Nat}{n m:Int}(h:fM w w1 q n)(j:fM w1 s q m):fM w s q m:=⟨h.av.a' j.av,j.cell,j.free⟩

theorem mN (q cap len a b c j:Nat)(n:Int)(d:Array Int)(w:World)(N:bh w q cap d)(I:d.size=len)(W:a<len)(X:b<len)(Y:c<len)(E:len≤1048576)(L:q≠j)(J:w.cell? ⟨j,0,none⟩=some (.int .i64 n))(K:w.frozen? ⟨j,0,none⟩=false)(am:0≤n)(a7:n≤900) :
  Calls Tryz.prog 255 #[.slice (some ⟨q,0,none⟩) len cap,.int .i64 a,.int .i64 b,.int .i64 c,.pointer (some ⟨j,0,none⟩)] w fun e w'=>
   ∃(x:Nat) (m:Int),e=.returned (.int .i64 x)∧(x=a∨x=b∨x=c)∧0≤m∧m≤n+3∧fM w w' j m:=by
 have A:=Lib.hid N
 have z:=Lib.hid I
 clear N I
 go_enter Tryz.func255,Tryz.ntmps255
 go_wp2_with fail
 refine(mZ q cap len a b j n d w A.out z.out W X E J K am (by omega)).mono ?_
 rintro e w1 ⟨O,T,a2,rfl,W,X,Z,N,I⟩
 have av:O<len:=by omega
 have a1:T<len:=by omega
 have s:=Lib.hid I
 clear I J K
 go_wp2_with fail
 refine(mZ q cap len T c j a2 d w1 (A.out.box s.out L) z.out a1 Y E s.out.cell s.out.free Z (by omega)).mono ?_
 rintro e a5 ⟨S,a',a3,rfl,K,N,ab,J,I⟩
 have aw:S<len:=by omega
 have t:=Lib.hid (s.out.trans I)
 clear I
 go_wp2_with fail
 refine(mZ q cap len O S j a3 d a5 (A.out.box t.out L) z.out av aw E t.out.cell t.out.free ab (by omega)).mono ?_
 rintro e j ⟨a8,a6,a4,rfl,s,z,ad,q,j⟩
 have U:=Lib.hid (t.out.trans j)
 clear j
 go_wp2
 go_ret
 exact⟨a6,a4,rfl,by omega,ad,by omega,U.out⟩

theorem lS (q cap len a j:Nat)(n:Int)(d:Array Int)(w:World)(E:bh w q cap d)(A:d.size=len)(s:1≤a)(K:a+1<len)(T:len≤1048576)(S:q≠j)(t:w.cell? ⟨j,0,none⟩=some (.int .i64 n))(z:w.frozen? ⟨j,0,none⟩=false)(N:0≤n)(O:n≤900) :
  Calls Tryz.prog 254 #[.slice (some ⟨q,0,none⟩) len cap,.int .i64 a,.pointer (some ⟨j,0,none⟩)] w fun e w'=>
   ∃(x:Nat) (m:Int),e=.returned (.int .i64 x)∧(a≤x+1∧x≤a+1)∧0≤m∧m≤n+3∧fM w w' j m:=by
 have s:=mN q cap len (a-1) a (a+1) j n d w E A (by omega) (by omega) K T S t z N O
 rw[show((a-1:Nat):Int)=(a:Int)-1 by omega,show((a+1:Nat):Int)=(a:Int)+1 by omega]at s
 have J:=Lib.hid s
 clear s E A t z
 go_enter Tryz.func254,Tryz.ntmps254
 go_wp2_with fail
 refine J.out.mono ?_
 rintro e w1 ⟨W,U,rfl,s,L,q,j⟩
 have I:=Lib.hid j
 clear j
 go_wp2
 go_ret
 exact⟨W,U,rfl,by omega,L,by omega,I.out⟩

theorem fM.U {w w':World}{o:Obj}{m:Int}(h:fM (w.alloc o) w' w.heap.size m):aa w w':=by
 have j:ae (fun k=>k=w.heap.size) w w':=((ae.refl _ w).alloc o).a' h.av;exact j.U (fun k j=>by omega)

theorem uq (s cap len a b:Nat)(d:Array Int)(w:World)(z:bh w s cap d)(ab:d.size=len)(bw:a+13≤b)(bx:b≤len)(T:len≤1048576) :
  Calls Tryz.prog 219 #[.slice (some ⟨s,0,none⟩) len cap,.int .i64 a,.int .i64 b] w fun e w'=>
   ∃(p:Nat) (h:Int),e=.returned (.tuple #[.int .i64 p,.int .i64 h])∧a≤p∧p<b∧(h=0∨h=1∨h=2)∧aa w w':=by
 have q:s≠w.heap.size:=by have:=z.lt;omega
 obtain⟨j,ad⟩:∃j:Nat,j=(b-a) / 4:=⟨_,rfl⟩
 have bw:3≤j:=by omega
 have bw:4*j≤b-a:=by omega
 have bw:((b:Int)-(a:Int)) / 4=(j:Int):=by omega
 have bw:=Lib.hid ad
 have a3:=Lib.hid z
 have J:=Lib.hid ab
 clear ad z ab
 have z:(8:Int)≤(b:Int)-(a:Int):=by omega
 have W:(w.alloc (.cells #[.int .i64 0] 3)).cell? ⟨w.heap.size,0,none⟩=some (.int .i64 0):=by simp[go_sem]
 have Z:(w.alloc (.cells #[.int .i64 0] 3)).frozen? ⟨w.heap.size,0,none⟩=false:=by simp[go_sem]
 have K:Hid (bh (w.alloc (.cells #[.int .i64 0] 3)) s cap d):=Lib.hid (a3.out.a5 (G:=fun _=>False) ((ae.refl _ w).alloc _) (fun h=>h))
 have X:=Lib.hid W
 have Y:=Lib.hid Z
 clear W Z
 by_cases z:(50:Int)≤(b:Int)-(a:Int)
 ·have L:((a+j:Nat):Int)=(a:Int)+(j:Int):=by omega
  have N:((a+j*2:Nat):Int)=(a:Int)+(j:Int)*2:=by omega
  have O:((a+j*3:Nat):Int)=(a:Int)+(j:Int)*3:=by omega
  have z:=lS s cap len (a+j) w.heap.size 0 d _ K.out J.out (by omega) (by omega) T q X.out Y.out (by omega) (by omega);rw[L]at z;have a4:=Lib.hid z;have am:=Lib.hid N;have av:=Lib.hid O;clear z L N O;go_enter Tryz.func219,Tryz.ntmps219
  go_wp2_with fail
  refine a4.out.mono ?_;rintro e w1 ⟨bs,be,rfl,ab,Z,W,z⟩;have W:=lS s cap len (a+j*2) w.heap.size be d w1 (K.out.box z q) J.out (by omega) (by omega) T q z.cell z.free Z (by omega);rw[am.out]at W;have a5:=Lib.hid W;have aw:=Lib.hid z;clear W z;go_wp2_with fail
  refine a5.out.mono ?_;rintro e bp ⟨bt,bg,rfl,ab,Z,W,z⟩;have z:=aw.out.trans z;have W:=lS s cap len (a+j*3) w.heap.size bg d bp (K.out.box z q) J.out (by omega) (by omega) T q z.cell z.free Z (by omega);rw[av.out]at W;have a6:=Lib.hid W;have a1:=Lib.hid z;clear W z;go_wp2_with fail
  refine a6.out.mono ?_;rintro e bq ⟨bv,bi,rfl,ab,W,Z,z⟩;have z:=a1.out.trans z;have I:=mN s cap len bs bt bv w.heap.size bi d bq (K.out.box z q) J.out (by omega) (by omega) (by omega) T q z.cell z.free W (by omega);have U:=Lib.hid I;have a2:=Lib.hid z;clear I z;go_wp2_with fail
  refine U.out.mono ?_;rintro e br ⟨x,bn,rfl,bb,a8,a',S⟩;have t:=Lib.hid (a2.out.trans S);clear S;have A:x<b:=by omega
  have E:a≤x:=by omega
  have a7:=t.out.cell;clear q;go_wp2
  all_goals refine bodyPost_ret (results_tmp2 rfl _ _ _) rfl ?_
  ·exact⟨x,1,rfl,E,A,by omega,t.out.U⟩
  ·exact⟨x,2,rfl,E,A,by omega,t.out.U⟩
  ·exact⟨x,0,rfl,E,A,by omega,t.out.U⟩
 ·have L:((a+j:Nat):Int)=(a:Int)+(j:Int):=by omega
  have N:((a+j*2:Nat):Int)=(a:Int)+(j:Int)*2:=by omega
  have O:((a+j*3:Nat):Int)=(a:Int)+(j:Int)*3:=by omega
  have I:=mN s cap len (a+j) (a+j*2) (a+j*3) w.heap.size 0 d _ K.out J.out (by omega) (by omega) (by omega) T q X.out Y.out (by omega) (by omega);rw[L,N,O]at I;have U:=Lib.hid I;clear I L N O;go_enter Tryz.func219,Tryz.ntmps219
  go_wp2_with fail
  refine U.out.mono ?_;rintro e br ⟨x,bn,rfl,bb,a8,a',S⟩;have t:=Lib.hid S;clear S;have A:x<b:=by omega
  have E:a≤x:=by omega
  have a7:=t.out.cell;clear q;go_wp2
  all_goals refine bodyPost_ret (results_tmp2 rfl _ _ _) rfl ?_
  ·exact⟨x,1,rfl,E,A,by omega,t.out.U⟩
  ·exact⟨x,0,rfl,E,A,by omega,t.out.U⟩

end Go.Proofs.YtafkamlhimkbmaaGreat
