/-
  slices.Sort at uint32, part 1: how the row lies, cmp.Less, insertionSortOrdered.
-/
import Derived.Test.YtafkamlhimkbmaaGreatPSFindA
import Derived.BigRegion
import Derived.CellFam
import Derived.IntWalk
namespace Go.Proofs.YtafkamlhimkbmaaGreat
set_option maxRecDepth 1000000
set_option maxHeartbeats 8000000
set_option linter.unusedSimpArgs false
set_option linter.unusedVariables false
open Go.RowKit Go.Sort
def bP (w:World)(q cap:Nat)(d:Array Int):Prop:=
 ∃j:Array Value,w.heap[q]?=some (.cells j 50 (0,0))∧j.size=cap∧d.size≤cap∧∀q,q<d.size→j[q]?=some (.int .u32 d[q]!)
structure aH (w wr:World)(blk cap:Nat)(d:Array Int):Prop where
 av:af (fun k=>k=blk) w wr
 row:bP wr blk cap d
theorem bP.cell {w:World}{q cap:Nat}{d:Array Int}(h:bP w q cap d):∀j,j<d.size→w.cell? ⟨q,j,none⟩=some (.int .u32 d[j]!):=by
 obtain⟨z,s,_,_,t⟩:=h;intro j z;rw[cell_of_row w q j _ _ _ s];exact t j z
theorem bP.frozen {w:World}{j cap:Nat}{d:Array Int}(h:bP w j cap d):∀q,w.frozen? ⟨j,q,none⟩=false:=by
 obtain⟨j,s,_⟩:=h;intro q;unfold World.frozen?;rw[s];rfl
theorem bP.lt {w:World}{j cap:Nat}{d:Array Int}(h:bP w j cap d):j<w.heap.size:=by
 obtain⟨q,j,_⟩:=h;exact aM j
theorem bP.a4 {G:Nat→Prop}{w w':World}{j cap:Nat}{d:Array Int}(h:bP w j cap d)(A:af G w w')(z:¬G j):bP w' j cap d:=by
 obtain⟨s,q,t⟩:=h;exact⟨s,(A.block j (aM q) z).trans q,t⟩
theorem Dk (d:Array Int)(i q j:Nat)(hi:i<d.size)(z:q<d.size):(swp d i q)[j]! = if j = q then d[i]! else if j = i then d[q]! else d[j]!:=by
 by_cases s:j=q;·subst s;rw[ah rfl];exact swp_right d i j z
 ·rw[ag s];by_cases t:j=i;·subst t;rw[ah rfl];exact swp_left d j q hi s
  ·rw[ag t];exact swp_other d i q j t s
theorem bP.ca {w:World}{q cap:Nat}{d:Array Int}(h:bP w q cap d)(i j:Nat)(hi:i<d.size)(N:j<d.size) :
  bP ((w.setCell ⟨q,i,none⟩ (.int .u32 d[j]!)).setCell ⟨q,j,none⟩ (.int .u32 d[i]!)) q cap (swp d i j):=by
 obtain⟨E,I,A,J,L⟩:=h
 refine⟨(E.setIfInBounds i (.int .u32 d[j]!)).setIfInBounds j (.int .u32 d[i]!),?_,by simp[A],by rw[size_swp];exact J,?_⟩
 ·have E:=heap_setCell_same w q i _ _ (.int .u32 d[j]!) I;exact heap_setCell_same _ q j _ _ (.int .u32 d[i]!) E
 ·intro t B;rw[size_swp]at B;rw[Dk d i j t hi N];simp only[dA,Array.size_setIfInBounds,A];by_cases s:t=j;·subst s;simp;omega
  ·by_cases z:t=i;·subst z;simp[s,Ne.symm s];omega
   ·simp[s,z,Ne.symm s,Ne.symm z,L t B]
theorem aH.ca {w wr:World}{j cap:Nat}{d:Array Int}(h:aH w wr j cap d)(n:Nat)(i q:Nat)(hi:i<d.size)(s:q<d.size) :
  aH w (((wr.drewN n).setCell ⟨j,i,none⟩ (.int .u32 d[q]!)).setCell ⟨j,q,none⟩ (.int .u32 d[i]!)) j cap (swp d i q):=
 ⟨((h.av.drewN n).setCell (p:=⟨j,i,none⟩) (Or.inl rfl) _).setCell (p:=⟨j,q,none⟩) (Or.inl rfl) _,bP.ca (w:=wr.drewN n) h.row i q hi s⟩
theorem aH.drewN {w wr:World}{j cap:Nat}{d:Array Int}(h:aH w wr j cap d)(n:Nat):aH w (wr.drewN n) j cap d:=⟨h.av.drewN n,h.row⟩
theorem aH.self {w:World}{j cap:Nat}{d:Array Int}(h:bP w j cap d):aH w w j cap d:=⟨af.refl _ _,h⟩
theorem aH.trans {w w1 t:World}{j cap:Nat}{d q:Array Int}(h:aH w w1 j cap d)(s:aH w1 t j cap q):aH w t j cap q:=⟨h.av.bg s.av,s.row⟩
theorem yK (x:Int)(w:World):Calls Tryz.prog 256 #[.int .u32 x] w fun e w'=>e=.returned (.bool false)∧w'=w:=by
 go_enter Tryz.func256,Tryz.ntmps256;go_wp2;go_ret;exact⟨rfl,rfl⟩
theorem aS (x y:Int)(w:World):Calls Tryz.prog 222 #[.int .u32 x,.int .u32 y] w fun e w'=>e=.returned (.bool (ltInt x y))∧w'=w:=by
 go_enter Tryz.func222,Tryz.ntmps222;go_wp2_with (go_at_call 256;refine(yK _ _).mono ?_;rintro e w' ⟨rfl,rfl⟩)
 all_goals go_ret
 all_goals(refine⟨?_,rfl⟩)
 all_goals simp_all [ltInt]
theorem yD (a j:Nat)(d:Array Int)(s:a<j)(q:ltInt d[j]! d[j-1]! = true):insInner ltInt a j d = insInner ltInt a (j-1) (swp d j (j-1)):=by
 obtain⟨k,rfl⟩:∃k,j=k+1:=⟨j-1,by omega⟩;simp only[Nat.add_sub_cancel]at q ⊢;rw[insInner];simp[s,q]
theorem rC (a j:Nat)(d:Array Int)(h:j≤a∨ltInt d[j]! d[j-1]! = false):insInner ltInt a j d = d:=by
 cases j with
 |zero=>rw[insInner]
 |succ k=>
  rw[insInner];simp only[Nat.add_sub_cancel]at h;rcases h with h|h;·simp[show¬k+1 > a by omega]
  ·simp[h]
theorem rD (a b i:Nat)(d:Array Int)(h:i<b):insOuter ltInt a b i d=insOuter ltInt a b (i+1) (insInner ltInt a i d):=by rw[insOuter,ah h]
theorem yE (a b i:Nat)(d:Array Int)(h:¬i<b):insOuter ltInt a b i d=d:=by rw[insOuter,ag h]
theorem fA (b:Bool):b=false∨b=true:=by cases b<;>simp
theorem yF (t cap len a b:Nat)(d:Array Int)(w:World)(U:bP w t cap d)(I:d.size=len)(Z:a≤b)(ad:b≤len)(a1:len≤1048576) :
  Calls Tryz.prog 216 #[.slice (some ⟨t,0,none⟩) len cap,.int .i64 a,.int .i64 b] w fun e w'=>
   e=.returned (.tuple #[])∧aH w w' t cap (insertionSort ltInt d a b):=by
 go_enter Tryz.func216,Tryz.ntmps216
 go_wp2
 go_loopg [6] (b+1) (fun gk Z wr=>∃(i:Nat) (s:Array Int),gk+i=b+1+(a+1)∧Z=.int .i64 (i:Int)∧a<i∧i≤b+1∧s.size=len∧aH w wr t cap s∧insOuter ltInt a b i s=insOuter ltInt a b (a+1) d)
 case atStart=>exact⟨a+1,d,by omega,by go_num,by omega,by omega,I,aH.self U,rfl⟩
 case round=>
  obtain⟨i,s,a4,rfl,a1,a5,ad,hS,Z⟩:=hrel;have W:=aa hS;have L:=aa Z;have a1:=aa U;have a1:=aa I;have av:=aa ad;clear hS Z U I ad;by_cases T:i<b
  ·obtain⟨X,rfl⟩:∃x:Nat,x=gk:=⟨_,rfl⟩;obtain⟨a6,rfl⟩:∃x:World,x=wr:=⟨_,rfl⟩;go_wp2;go_loopg [7] i (fun I U Z=>∃(j:Nat) (q:Array Int),I=j∧U=.int .i64 (j:Int)∧a≤j∧j≤i∧q.size=len∧aH w Z t cap q∧insInner ltInt a j q=insInner ltInt a i s)
   case atStart=>exact⟨i,s,rfl,rfl,by omega,aE _,av.out,W.out,rfl⟩
   case round=>
    obtain⟨j,q,a3,rfl,I,U,ab,A,Y⟩:=hrel;obtain⟨g,E⟩:∃g:Nat→Int,∀I,g I=q[I]!:=⟨fun I=>q[I]!,fun _=>rfl⟩;have I:j<len:=(by omega);have I:wr.cell? ⟨t,j,none⟩=some (.int .u32 (g j)):=(by rw[E];exact A.row.cell j (by omega));have I:wr.cell? ⟨t,j-1,none⟩=some (.int .u32 (g (j-1))):=(by rw[E];exact A.row.cell (j-1) (by omega));have I:wr.frozen? ⟨t,j,none⟩=false:=A.row.frozen j;have I:wr.frozen? ⟨t,j-1,none⟩=false:=A.row.frozen (j-1);have z:=aa E;have O:=aa A;have J:=aa Y;have B:=aa ab;clear E A Y ab;by_cases a0:a<j
    ·have t:((j:Int)-1).toNat=j-1:=(by omega);have t:(0:Int)≤(j:Int)-1:=(by omega);have t:(j:Int)-1<(len:Int):=(by omega);have t:(j:Int)<(len:Int):=(by omega);have al:(a:Int)<(j:Int):=(by omega);rcases fA (ltInt (g j) (g (j-1)))with S|S
     ·have N:Hid (insOuter ltInt a b (i+1) q=insOuter ltInt a b (a+1) d):=aa (by
       rw[←L.out,rD a b i s T,←J.out,rC a j q (.inr (by rw[←z.out,←z.out];exact S))])
      go_wp2_with fail;go_quiet ((go_at_call 222;exact aQ (aS _ _ _)));go_wp2;go_roundg (X-1)
      case rel=>exact⟨i+1,q,by omega,by go_num,by omega,by omega,B.out,O.out.drewN nq,N.out⟩
      case measure=>omega
     ·have am:Hid (insInner ltInt a (j-1) (swp q j (j-1))=insInner ltInt a i s):=aa (by
       rw[←J.out,yD a j q a0 (by rw[←z.out,←z.out];exact S)])
      have t:=fun n=>O.out.ca n j (j-1) (by rw[B.out];omega) (by rw[B.out];omega);rw[←z.out,←z.out]at t;have aw:=aa t;clear t;go_wp2_with fail;go_quiet ((go_at_call 222;exact aQ (aS _ _ _)));go_wp2;go_region;all_goals go_wp2
      go_roundg (gk-1)
      case rel=>exact⟨j-1,swp q j (j-1),by omega,by congr 1;omega,by omega,by omega,by rw[size_swp];exact B.out,aw.out (nq+1),am.out⟩
      case measure=>omega
    ·have al:decide ((a:Int)<(j:Int))=false:=aY (by omega)
     have N:Hid (insOuter ltInt a b (i+1) q=insOuter ltInt a b (a+1) d):=aa (by
      rw[←L.out,rD a b i s T,←J.out,rC a j q (.inl (by omega))])
     go_wp2_with fail;go_quiet ((go_at_call 222;exact aQ (aS _ _ _)));go_wp2;go_roundg (X-1)
     case rel=>exact⟨i+1,q,by omega,by go_num,by omega,by omega,B.out,O.out.drewN nq,N.out⟩
     case measure=>omega
  ·have al:¬(i:Int)<(b:Int):=(by omega);go_wp2;go_end0;exact⟨rfl,by unfold insertionSort;rw[←L.out,yE a b i s T];exact W.out⟩
theorem CS {hi F root:Nat}(d:Array Int)(h:hi≤2*root+1):siftDown ltInt hi F root d=d:=by rw[siftDown,dif_pos h]
theorem pD {hi F root c:Nat}(d:Array Int)(h:2*root+1<hi)(z:(2*root+2<hi∧ltInt d[F+(2*root+1)]! d[F+(2*root+2)]! = true∧c = 2*root+2)∨((2*root+2<hi→ltInt d[F+(2*root+1)]! d[F+(2*root+2)]! = false)∧c = 2*root+1)) :
  siftDown ltInt hi F root d = if ltInt d[F+root]! d[F+c]! = true then siftDown ltInt hi F c (swp d (F+root) (F+c))else d:=by
 rw[siftDown,dif_neg (by omega),show F+(2*root+1)+1=F+(2*root+2) by omega]
 rcases z with⟨q,s,rfl⟩|⟨q,rfl⟩
 ·have j:2*root+1+1<hi:=by omega
  rw[s];simp[j];cases ltInt d[F+root]! d[F+(2*root+2)]!<;>simp
 ·have j:(decide (2*root+1+1<hi)&&ltInt d[F+(2*root+1)]! d[F+(2*root+2)]!)=false:=by
   by_cases t:2*root+2<hi;·simp[q t]
   ·simp[show¬2*root+1+1<hi by omega]
  rw[j];simp;cases ltInt d[F+root]! d[F+(2*root+1)]!<;>simp
theorem py (q cap len lo hi first:Nat)(d:Array Int)(w:World)(bb:bP w q cap d)(a':d.size=len)(a0:lo≤hi)(bi:first+hi≤len)(bp:len≤1048576) :
  Calls Tryz.prog 251 #[.slice (some ⟨q,0,none⟩) len cap,.int .i64 lo,.int .i64 hi,.int .i64 first] w fun e w'=>
   e=.returned (.tuple #[])∧aH w w' q cap (siftDown ltInt hi first lo d):=by
 go_enter Tryz.func251,Tryz.ntmps251
 go_wp2
 go_loopg [8] (hi-lo) (fun gk bi wr=>∃(root:Nat) (A:Array Int),hi-root≤gk∧bi=.int .i64 (root:Int)∧root≤hi∧A.size=len∧aH w wr q cap A∧siftDown ltInt hi first root A=siftDown ltInt hi first lo d)
 case atStart=>exact⟨lo,d,by omega,rfl,a0,a',aH.self bb,rfl⟩
 case round=>
  obtain⟨root,A,bn,rfl,a0,bd,hS,a7⟩:=hrel;obtain⟨g,a8⟩:∃g:Nat→Int,∀a0,g a0=A[a0]!:=⟨fun a0=>A[a0]!,fun _=>rfl⟩;have s:=aa a8;have L:=aa hS;have Z:=aa a7;have z:=aa bd;clear a8 hS a7 bd bb a';by_cases be:hi≤2*root+1
  ·have bf:(hi:Int)≤2*(root:Int)+1:=(by omega);go_wp2;first|go_end0|refine aq (results_none rfl _ _ _) rfl ?_
   exact⟨rfl,by rw[←Z.out,CS A be];exact L.out⟩
  ·have bf:2*(root:Int)+1<(hi:Int):=(by omega);have a0:((first:Int)+(2*(root:Int)+1)).toNat=first+(2*root+1):=by omega
   have a0:(0:Int)≤(first:Int)+(2*(root:Int)+1):=(by omega);have a0:(first:Int)+(2*(root:Int)+1)<(len:Int):=(by omega);have a0:((first:Int)+(root:Int)).toNat=first+root:=by omega
   have a0:(0:Int)≤(first:Int)+(root:Int):=(by omega);have a0:(first:Int)+(root:Int)<(len:Int):=(by omega);by_cases a6:2*root+2<hi
   ·have bg:2*(root:Int)+1+1<(hi:Int):=(by omega);have a0:((first:Int)+(2*(root:Int)+1)+1).toNat=first+(2*root+2):=by omega
    have a0:(0:Int)≤(first:Int)+(2*(root:Int)+1)+1:=(by omega);have a0:(first:Int)+(2*(root:Int)+1)+1<(len:Int):=(by omega);have a0:((first:Int)+(2*(root:Int)+1+1)).toNat=first+(2*root+2):=by omega
    have a0:(0:Int)≤(first:Int)+(2*(root:Int)+1+1):=(by omega);have a0:(first:Int)+(2*(root:Int)+1+1)<(len:Int):=(by omega);have al:wr.cell? ⟨q,first+(2*root+1),none⟩=some (.int .u32 (g (first+(2*root+1)))):=(by rw[s.out];exact L.out.row.cell (first+(2*root+1)) (by rw[z.out];omega));have av:wr.frozen? ⟨q,first+(2*root+1),none⟩=false:=L.out.row.frozen (first+(2*root+1));have am:wr.cell? ⟨q,first+(2*root+2),none⟩=some (.int .u32 (g (first+(2*root+2)))):=(by rw[s.out];exact L.out.row.cell (first+(2*root+2)) (by rw[z.out];omega));have aw:wr.frozen? ⟨q,first+(2*root+2),none⟩=false:=L.out.row.frozen (first+(2*root+2));rcases fA (ltInt (g (first+(2*root+1))) (g (first+(2*root+2))))with ab|ab
    ·skip
     have Y:=pD (hi:=hi) (root:=root) (F:=first) (c:=2*root+1) A (by omega) (.inr ⟨fun h=>by rw[←s.out,←s.out];exact ab,rfl⟩);have S:=aa Y;clear Y;rcases fA (ltInt (g (first+root)) (g (first+(2*root+1))))with O|O
     ·have E:ltInt A[first+root]! A[first+(2*root+1)]! = false:=(by rw[←s.out,←s.out];exact O);have J:Hid (siftDown ltInt hi first lo d=A):=aa (by rw[←Z.out,S.out,ag (by rw[E];simp)]);clear E;go_wp2_with fail;go_quiet ((go_at_call 222;exact aQ (aS _ _ _)));go_wp2_with fail;have j:=L.out.drewN nq;generalize wr.drewN nq=t at j ⊢;clear nq;clear al am av aw ab;have j:=aa j;have T:t.cell? ⟨q,first+root,none⟩=some (.int .u32 (g (first+root))):=(by rw[s.out];exact j.out.row.cell (first+root) (by rw[z.out];omega));have W:t.frozen? ⟨q,first+root,none⟩=false:=j.out.row.frozen (first+root);have U:t.cell? ⟨q,first+(2*root+1),none⟩=some (.int .u32 (g (first+(2*root+1)))):=(by rw[s.out];exact j.out.row.cell (first+(2*root+1)) (by rw[z.out];omega));have X:t.frozen? ⟨q,first+(2*root+1),none⟩=false:=j.out.row.frozen (first+(2*root+1));go_quiet ((go_at_call 222;exact aQ (aS _ _ _)));go_wp2;first|go_end0|refine aq (results_none rfl _ _ _) rfl ?_
      exact⟨rfl,by rw[J.out];exact j.out.drewN nq⟩
     ·have E:ltInt A[first+root]! A[first+(2*root+1)]! = true:=(by rw[←s.out,←s.out];exact O);have J:Hid (siftDown ltInt hi first (2*root+1) (swp A (first+root) (first+(2*root+1)))=siftDown ltInt hi first lo d):=aa (by rw[←Z.out,S.out,ah E]);clear E;go_wp2_with fail;go_quiet ((go_at_call 222;exact aQ (aS _ _ _)));go_wp2_with fail;have j:=L.out.drewN nq;generalize wr.drewN nq=t at j ⊢;clear nq;clear al am av aw ab;have j:=aa j;have T:t.cell? ⟨q,first+root,none⟩=some (.int .u32 (g (first+root))):=(by rw[s.out];exact j.out.row.cell (first+root) (by rw[z.out];omega));have W:t.frozen? ⟨q,first+root,none⟩=false:=j.out.row.frozen (first+root);have U:t.cell? ⟨q,first+(2*root+1),none⟩=some (.int .u32 (g (first+(2*root+1)))):=(by rw[s.out];exact j.out.row.cell (first+(2*root+1)) (by rw[z.out];omega));have X:t.frozen? ⟨q,first+(2*root+1),none⟩=false:=j.out.row.frozen (first+(2*root+1));go_quiet ((go_at_call 222;exact aQ (aS _ _ _)));go_wp2_with fail;have B:=j.out.drewN nq;generalize t.drewN nq=I at B ⊢;clear nq T U W X;have B:=aa B;have a1:I.cell? ⟨q,first+root,none⟩=some (.int .u32 (g (first+root))):=(by rw[s.out];exact B.out.row.cell (first+root) (by rw[z.out];omega));have a4:I.frozen? ⟨q,first+root,none⟩=false:=B.out.row.frozen (first+root);have a3:I.cell? ⟨q,first+(2*root+1),none⟩=some (.int .u32 (g (first+(2*root+1)))):=(by rw[s.out];exact B.out.row.cell (first+(2*root+1)) (by rw[z.out];omega));have a5:I.frozen? ⟨q,first+(2*root+1),none⟩=false:=B.out.row.frozen (first+(2*root+1));have N:=fun n=>B.out.ca n (first+root) (first+(2*root+1)) (by rw[z.out];omega) (by rw[z.out];omega);rw[←s.out,←s.out]at N;have ad:=aa N;clear N;go_region;all_goals go_wp2
      go_roundg (gk-1)
      case rel=>exact⟨2*root+1,_,by omega,by first|rfl|go_num|(congr 1;omega),by omega,by rw[size_swp];exact z.out,ad.out 1,J.out⟩
      case measure=>omega
    ·skip
     have Y:=pD (hi:=hi) (root:=root) (F:=first) (c:=2*root+2) A (by omega) (.inl ⟨a6,by rw[←s.out,←s.out];exact ab,rfl⟩);have S:=aa Y;clear Y;rcases fA (ltInt (g (first+root)) (g (first+(2*root+2))))with O|O
     ·have E:ltInt A[first+root]! A[first+(2*root+2)]! = false:=(by rw[←s.out,←s.out];exact O);have J:Hid (siftDown ltInt hi first lo d=A):=aa (by rw[←Z.out,S.out,ag (by rw[E];simp)]);clear E;go_wp2_with fail;go_quiet ((go_at_call 222;exact aQ (aS _ _ _)));go_wp2_with fail;have j:=L.out.drewN nq;generalize wr.drewN nq=t at j ⊢;clear nq;clear al am av aw ab;have j:=aa j;have T:t.cell? ⟨q,first+root,none⟩=some (.int .u32 (g (first+root))):=(by rw[s.out];exact j.out.row.cell (first+root) (by rw[z.out];omega));have W:t.frozen? ⟨q,first+root,none⟩=false:=j.out.row.frozen (first+root);have U:t.cell? ⟨q,first+(2*root+2),none⟩=some (.int .u32 (g (first+(2*root+2)))):=(by rw[s.out];exact j.out.row.cell (first+(2*root+2)) (by rw[z.out];omega));have X:t.frozen? ⟨q,first+(2*root+2),none⟩=false:=j.out.row.frozen (first+(2*root+2));go_quiet ((go_at_call 222;exact aQ (aS _ _ _)));go_wp2;first|go_end0|refine aq (results_none rfl _ _ _) rfl ?_
      exact⟨rfl,by rw[J.out];exact j.out.drewN nq⟩
     ·have E:ltInt A[first+root]! A[first+(2*root+2)]! = true:=(by rw[←s.out,←s.out];exact O);have J:Hid (siftDown ltInt hi first (2*root+2) (swp A (first+root) (first+(2*root+2)))=siftDown ltInt hi first lo d):=aa (by rw[←Z.out,S.out,ah E]);clear E;go_wp2_with fail;go_quiet ((go_at_call 222;exact aQ (aS _ _ _)));go_wp2_with fail;have j:=L.out.drewN nq;generalize wr.drewN nq=t at j ⊢;clear nq;clear al am av aw ab;have j:=aa j;have T:t.cell? ⟨q,first+root,none⟩=some (.int .u32 (g (first+root))):=(by rw[s.out];exact j.out.row.cell (first+root) (by rw[z.out];omega));have W:t.frozen? ⟨q,first+root,none⟩=false:=j.out.row.frozen (first+root);have U:t.cell? ⟨q,first+(2*root+2),none⟩=some (.int .u32 (g (first+(2*root+2)))):=(by rw[s.out];exact j.out.row.cell (first+(2*root+2)) (by rw[z.out];omega));have X:t.frozen? ⟨q,first+(2*root+2),none⟩=false:=j.out.row.frozen (first+(2*root+2));go_quiet ((go_at_call 222;exact aQ (aS _ _ _)));go_wp2_with fail;have B:=j.out.drewN nq;generalize t.drewN nq=I at B ⊢;clear nq T U W X;have B:=aa B;have a1:I.cell? ⟨q,first+root,none⟩=some (.int .u32 (g (first+root))):=(by rw[s.out];exact B.out.row.cell (first+root) (by rw[z.out];omega));have a4:I.frozen? ⟨q,first+root,none⟩=false:=B.out.row.frozen (first+root);have a3:I.cell? ⟨q,first+(2*root+2),none⟩=some (.int .u32 (g (first+(2*root+2)))):=(by rw[s.out];exact B.out.row.cell (first+(2*root+2)) (by rw[z.out];omega));have a5:I.frozen? ⟨q,first+(2*root+2),none⟩=false:=B.out.row.frozen (first+(2*root+2));have N:=fun n=>B.out.ca n (first+root) (first+(2*root+2)) (by rw[z.out];omega) (by rw[z.out];omega);rw[←s.out,←s.out]at N;have ad:=aa N;clear N;go_region;all_goals go_wp2
      go_roundg (gk-1)
      case rel=>exact⟨2*root+2,_,by omega,by first|rfl|go_num|(congr 1;omega),by omega,by rw[size_swp];exact z.out,ad.out 1,J.out⟩
      case measure=>omega
   ·have bg:decide (2*(root:Int)+1+1<(hi:Int))=false:=aY (by omega);have Y:=pD (hi:=hi) (root:=root) (F:=first) (c:=2*root+1) A (by omega) (.inr ⟨fun h=>absurd h a6,rfl⟩);have S:=aa Y;clear Y;rcases fA (ltInt (g (first+root)) (g (first+(2*root+1))))with O|O
    ·have E:ltInt A[first+root]! A[first+(2*root+1)]! = false:=(by rw[←s.out,←s.out];exact O);have J:Hid (siftDown ltInt hi first lo d=A):=aa (by rw[←Z.out,S.out,ag (by rw[E];simp)]);clear E;go_wp2_with fail;go_quiet ((go_at_call 222;exact aQ (aS _ _ _)));go_wp2_with fail;have j:=L.out.drewN nq;generalize wr.drewN nq=t at j ⊢;clear nq;have j:=aa j;have T:t.cell? ⟨q,first+root,none⟩=some (.int .u32 (g (first+root))):=(by rw[s.out];exact j.out.row.cell (first+root) (by rw[z.out];omega));have W:t.frozen? ⟨q,first+root,none⟩=false:=j.out.row.frozen (first+root);have U:t.cell? ⟨q,first+(2*root+1),none⟩=some (.int .u32 (g (first+(2*root+1)))):=(by rw[s.out];exact j.out.row.cell (first+(2*root+1)) (by rw[z.out];omega));have X:t.frozen? ⟨q,first+(2*root+1),none⟩=false:=j.out.row.frozen (first+(2*root+1));go_quiet ((go_at_call 222;exact aQ (aS _ _ _)));go_wp2;first|go_end0|refine aq (results_none rfl _ _ _) rfl ?_
     exact⟨rfl,by rw[J.out];exact j.out.drewN nq⟩
    ·have E:ltInt A[first+root]! A[first+(2*root+1)]! = true:=(by rw[←s.out,←s.out];exact O);have J:Hid (siftDown ltInt hi first (2*root+1) (swp A (first+root) (first+(2*root+1)))=siftDown ltInt hi first lo d):=aa (by rw[←Z.out,S.out,ah E]);clear E;go_wp2_with fail;go_quiet ((go_at_call 222;exact aQ (aS _ _ _)));go_wp2_with fail;have j:=L.out.drewN nq;generalize wr.drewN nq=t at j ⊢;clear nq;have j:=aa j;have T:t.cell? ⟨q,first+root,none⟩=some (.int .u32 (g (first+root))):=(by rw[s.out];exact j.out.row.cell (first+root) (by rw[z.out];omega));have W:t.frozen? ⟨q,first+root,none⟩=false:=j.out.row.frozen (first+root);have U:t.cell? ⟨q,first+(2*root+1),none⟩=some (.int .u32 (g (first+(2*root+1)))):=(by rw[s.out];exact j.out.row.cell (first+(2*root+1)) (by rw[z.out];omega));have X:t.frozen? ⟨q,first+(2*root+1),none⟩=false:=j.out.row.frozen (first+(2*root+1));go_quiet ((go_at_call 222;exact aQ (aS _ _ _)));go_wp2_with fail;have B:=j.out.drewN nq;generalize t.drewN nq=I at B ⊢;clear nq T U W X;have B:=aa B;have a1:I.cell? ⟨q,first+root,none⟩=some (.int .u32 (g (first+root))):=(by rw[s.out];exact B.out.row.cell (first+root) (by rw[z.out];omega));have a4:I.frozen? ⟨q,first+root,none⟩=false:=B.out.row.frozen (first+root);have a3:I.cell? ⟨q,first+(2*root+1),none⟩=some (.int .u32 (g (first+(2*root+1)))):=(by rw[s.out];exact B.out.row.cell (first+(2*root+1)) (by rw[z.out];omega));have a5:I.frozen? ⟨q,first+(2*root+1),none⟩=false:=B.out.row.frozen (first+(2*root+1));have N:=fun n=>B.out.ca n (first+root) (first+(2*root+1)) (by rw[z.out];omega) (by rw[z.out];omega);rw[←s.out,←s.out]at N;have ad:=aa N;clear N;go_region;all_goals go_wp2
     go_roundg (gk-1)
     case rel=>exact⟨2*root+1,_,by omega,by first|rfl|go_num|(congr 1;omega),by omega,by rw[size_swp];exact z.out,ad.out 1,J.out⟩
     case measure=>omega
theorem pz (hi first root:Nat)(d:Array Int):(siftDown ltInt hi first root d).size=d.size:=by
 fun_induction siftDown ltInt hi first root d<;>simp_all [size_swp]
theorem yk (j cap len a b:Nat)(d:Array Int)(w:World)(a5:bP w j cap d)(a4:d.size=len)(a1:a<b)(a6:b≤len)(Z:len≤1048576) :
  Calls Tryz.prog 217 #[.slice (some ⟨j,0,none⟩) len cap,.int .i64 a,.int .i64 b] w fun e w'=>
   e=.returned (.tuple #[])∧aH w w' j cap (heapSort ltInt d a b):=by
 go_enter Tryz.func217,Tryz.ntmps217
 go_wp2
 go_loopg [9] (b-a+1) (fun gk ab wr=>∃(k:Nat) (s:Array Int),k≤gk∧k≤(b-a-1) / 2+1∧ab=.int .i64 ((k:Int)-1)∧s.size=len∧aH w wr j cap s∧heapBuild ltInt (b-a) a k s=heapBuild ltInt (b-a) a ((b-a-1) / 2+1) d)
 case atStart=>exact⟨(b-a-1) / 2+1,d,by omega,aE _,by congr 1;omega,a4,aH.self a5,rfl⟩
 case round=>
  obtain⟨k,s,bp,bq,rfl,a6,hS,a1⟩:=hrel;have W:=aa hS;have al:=aa a1;have U:=aa a6;clear hS a1 a6 a5 a4;cases k with
  |succ k=>
   have e:((k+1:Nat):Int)-1=(k:Int):=(by omega);rw[e];have T:Hid (heapBuild ltInt (b-a) a k (siftDown ltInt (b-a) a k s)=heapBuild ltInt (b-a) a ((b-a-1) / 2+1) d):=aa (by rw[←al.out];rfl);clear e;have z:=py j cap len k (b-a) a s wr W.out.row U.out (by omega) (by omega) Z;rw[show((b-a:Nat):Int)=(b:Int)-(a:Int) by omega]at z;have I:=aa z;clear z;go_wp2_with fail;refine I.out.mono ?_;rintro e a1 ⟨rfl,a1⟩;have a7:=aa (W.out.trans a1);have J:=aa (pz (b-a) a k s);clear a1;go_wp2;go_roundg (gk-1)
   case rel=>exact⟨k,_,by omega,by omega,rfl,by rw[J.out];exact U.out,a7.out,T.out⟩
   case measure=>omega
  |zero=>
   have T:Hid (heapBuild ltInt (b-a) a ((b-a-1) / 2+1) d=s):=aa al.out.symm;have L:(((0:Nat):Int)-1)=-1:=rfl;rw[L];clear L;obtain⟨bs,rfl⟩:∃x:World,x=wr:=⟨_,rfl⟩;go_wp2_with fail;go_loopg [10] (b-a) (fun al ab wr=>∃(k:Nat) (q:Array Int),k≤al∧k≤b-a∧ab=.int .i64 ((k:Int)-1)∧q.size=len∧aH w wr j cap q∧heapPop ltInt a k q=heapPop ltInt a (b-a) s)
   case atStart=>exact⟨b-a,s,aE _,aE _,by congr 1;omega,U.out,W.out,rfl⟩
   case round=>
    obtain⟨k,q,bn,br,rfl,ab,W,U⟩:=hrel;have E:=aa W;have am:=aa U;have A:=aa ab;clear W U ab;cases k with
    |zero=>
     have L:(((0:Nat):Int)-1)=-1:=rfl;rw[L];clear L;go_wp2;first|go_end0|refine aq (results_none rfl _ _ _) rfl ?_
     exact⟨rfl,by unfold heapSort;rw[T.out,←am.out];exact E.out⟩
    |succ k=>
     have ad:Hid (heapPop ltInt a k (siftDown ltInt k a 0 (swp q a (a+k)))=heapPop ltInt a (b-a) s):=aa (by rw[←am.out];rfl);obtain⟨g,a3⟩:∃g:Nat→Int,∀s,g s=q[s]!:=⟨fun s=>q[s]!,fun _=>rfl⟩;have S:=aa a3;clear a3;have aw:wr.cell? ⟨j,a,none⟩=some (.int .u32 (g a)):=(by rw[S.out];exact E.out.row.cell a (by rw[A.out];omega));have a0:wr.frozen? ⟨j,a,none⟩=false:=E.out.row.frozen a;have s:(a:Int)<(len:Int):=(by omega);have s:=fun n=>E.out.ca n a (a+k) (by rw[A.out];omega) (by rw[A.out];omega);rw[←S.out,←S.out]at s;have av:=aa s;clear s;rcases Nat.eq_zero_or_pos k with rfl|s
     ·have e:((0+1:Nat):Int)-1=0:=rfl;rw[e];clear e;have Y:True:=trivial;go_wp2_with fail;go_region;obtain⟨O,B⟩:∃x,x=((wr.setCell ⟨j,a,none⟩ (.int .u32 (g a))).setCell ⟨j,a,none⟩ (.int .u32 (g a))).drew:=⟨_,rfl⟩;have t:aH w O j cap (swp q a (a+0)):=(by rw[B];exact av.out 1);have z:=py j cap len 0 0 a (swp q a (a+0)) O t.row (by rw[size_swp];exact A.out) (by omega) (by omega) Z;have I:=aa z;have t:=aa t;rw[←B];clear z B aw a0 Y;go_wp2_with fail;refine I.out.mono ?_;rintro e bi ⟨rfl,N⟩;have X:=aa (t.out.trans N);have J:=aa (pz 0 a 0 (swp q a (a+0)));clear N;go_wp2;go_roundg (gk-1)
      case rel=>exact⟨0,_,by omega,by omega,rfl,by rw[J.out,size_swp];exact A.out,X.out,ad.out⟩
      case measure=>omega
     ·have e:((k+1:Nat):Int)-1=(k:Int):=(by omega);rw[e];clear e;have a':¬a+k=a:=(by omega);have bb:¬k=0:=(by omega);have a8:wr.cell? ⟨j,a+k,none⟩=some (.int .u32 (g (a+k))):=(by rw[S.out];exact E.out.row.cell (a+k) (by rw[A.out];omega));have Y:wr.frozen? ⟨j,a+k,none⟩=false:=E.out.row.frozen (a+k);have bd:((a:Int)+(k:Int)).toNat=a+k:=(by omega);have be:(0:Int)≤(a:Int)+(k:Int):=(by omega);have bf:(a:Int)+(k:Int)<(len:Int):=(by omega);have bg:IntKind.i64.wrap ((a:Int)+(k:Int))=(a:Int)+(k:Int):=IntWalk.i64_in _ ⟨by omega,by omega⟩;go_wp2_with fail;go_region;clear bg a' bb a8 bd be bf;obtain⟨O,B⟩:∃x,x=((wr.setCell ⟨j,a,none⟩ (.int .u32 (g (a+k)))).setCell ⟨j,a+k,none⟩ (.int .u32 (g a))).drew:=⟨_,rfl⟩;have t:aH w O j cap (swp q a (a+k)):=(by rw[B];exact av.out 1);have z:=py j cap len 0 k a (swp q a (a+k)) O t.row (by rw[size_swp];exact A.out) (by omega) (by omega) Z;have I:=aa z;have t:=aa t;rw[←B];clear z B aw a0 Y;go_wp2_with fail;refine I.out.mono ?_;rintro e bi ⟨rfl,N⟩;have X:=aa (t.out.trans N);have J:=aa (pz k a 0 (swp q a (a+k)));clear N;go_wp2;go_roundg (gk-1)
      case rel=>exact⟨k,_,by omega,by omega,rfl,by rw[J.out,size_swp];exact A.out,X.out,ad.out⟩
      case measure=>omega
theorem By (s cap len a b:Nat)(d:Array Int)(w:World)(J:bP w s cap d)(B:d.size=len)(A:a<b)(S:b≤len)(L:len≤1048576) :
  Calls Tryz.prog 220 #[.slice (some ⟨s,0,none⟩) len cap,.int .i64 a,.int .i64 b] w fun e w'=>
   e=.returned (.tuple #[])∧∃d',PermIn a b d d'∧aH w w' s cap d':=by
 go_enter Tryz.func220,Tryz.ntmps220
 go_wp2
 go_loopg [6,7] (b-a) (fun gk A L wr=>∃(i j:Nat) (q:Array Int),j-i≤gk∧a≤i∧j<b∧A=.int .i64 (i:Int)∧L=.int .i64 (j:Int)∧PermIn a b d q∧aH w wr s cap q)
 case atStart=>exact⟨a,b-1,d,by omega,aE _,by omega,rfl,by congr 1;omega,permIn_refl _ _ _,aH.self J⟩
 case round=>
  obtain⟨i,j,q,W,O,T,rfl,rfl,A,hS⟩:=hrel;have L:q.size=len:=A.1.trans B;have t:=aa hS;have E:=aa A;have z:=aa L;have W:=aa B;clear hS A L J B;by_cases A:i<j
  ·obtain⟨g,I⟩:∃g:Nat→Int,∀A,g A=q[A]!:=⟨fun A=>q[A]!,fun _=>rfl⟩;have A:=aa I;clear I;have B:wr.cell? ⟨s,i,none⟩=some (.int .u32 (g i)):=(by rw[A.out];exact t.out.row.cell i (by rw[z.out];omega));have B:wr.cell? ⟨s,j,none⟩=some (.int .u32 (g j)):=(by rw[A.out];exact t.out.row.cell j (by rw[z.out];omega));have B:wr.frozen? ⟨s,i,none⟩=false:=t.out.row.frozen i;have B:wr.frozen? ⟨s,j,none⟩=false:=t.out.row.frozen j;have s:(i:Int)<(len:Int):=(by omega);have s:(j:Int)<(len:Int):=(by omega);have U:(i:Int)<(j:Int):=(by omega);have s:¬j=i:=(by omega);have s:=fun n=>t.out.ca n i j (by rw[z.out];omega) (by rw[z.out];omega);rw[←A.out,←A.out]at s;have N:=aa s;clear s;go_wp2_with fail;go_region;all_goals go_wp2
   go_roundg (gk-1)
   case rel=>exact⟨i+1,j-1,swp q i j,by omega,by omega,by omega,by first|rfl|go_num,by congr 1;omega,permIn_trans _ _ _ _ _ E.out (swp_permIn q a b i j O (by omega) (by omega) T (by rw[z.out];exact S)),N.out 1⟩
   case measure=>omega
  ·have U:¬(i:Int)<(j:Int):=(by omega);go_wp2;first|go_end0|refine aq (results_none rfl _ _ _) rfl ?_
   exact⟨rfl,q,E.out,t.out⟩
structure gX (w w':World)(sb:Nat)(n:Int):Prop where
 av:af (fun k=>k=sb) w w'
 cell:w'.cell? ⟨sb,0,none⟩=some (.int .i64 n)
 free:w'.frozen? ⟨sb,0,none⟩=false
theorem bP.box {w w':World}{j cap sb:Nat}{n:Int}{d:Array Int}(h:bP w j cap d)(q:gX w w' sb n)(s:j≠sb):bP w' j cap d:=h.a4 q.av s
theorem o9 (j cap len a b sb:Nat)(n:Int)(d:Array Int)(w:World)(t:bP w j cap d)(I:d.size=len)(q:a<len)(L:b<len)(O:len≤1048576)(A:w.cell? ⟨sb,0,none⟩=some (.int .i64 n))(E:w.frozen? ⟨sb,0,none⟩=false)(J:0≤n)(N:n≤1000) :
  Calls Tryz.prog 266 #[.slice (some ⟨j,0,none⟩) len cap,.int .i64 a,.int .i64 b,.pointer (some ⟨sb,0,none⟩)] w fun e w'=>
   ∃(x y:Nat) (m:Int),e=.returned (.tuple #[.int .i64 x,.int .i64 y])∧(x=a∨x=b)∧(y=a∨y=b)∧0≤m∧m≤n+1∧gX w w' sb m:=by
 obtain⟨g,s⟩:∃g:Nat→Int,∀q,g q=d[q]!:=⟨fun q=>d[q]!,fun _=>rfl⟩
 have q:w.cell? ⟨j,a,none⟩=some (.int .u32 (g a)):=by rw[s];exact t.cell a (by omega)
 have q:w.cell? ⟨j,b,none⟩=some (.int .u32 (g b)):=by rw[s];exact t.cell b (by omega)
 clear s t I
 have j:(a:Int)<(len:Int):=by omega
 have j:(b:Int)<(len:Int):=by omega
 have B:=aa A
 have z:=aa E
 go_enter Tryz.func266,Tryz.ntmps266
 go_wp2_with fail
 go_quiet ((go_at_call 222;exact aQ (aS _ _ _)))
 go_wp2
 all_goals refine aq (results_tmp2 rfl _ _ _) rfl ?_
 ·exact⟨b,a,n+1,rfl,.inr rfl,.inl rfl,by omega,by omega,((af.refl (fun k=>k=sb) w).drewN _).setCell (p:=⟨sb,0,none⟩) (Or.inl rfl) _,by simp[go_sem,A],by rw[cq];exact z.out⟩
 ·exact⟨a,b,n,rfl,.inl rfl,.inr rfl,J,by omega,(af.refl _ _).drewN _,B.out,z.out⟩
theorem gX.trans {w w1 q:World}{sb:Nat}{n m:Int}(h:gX w w1 sb n)(j:gX w1 q sb m):gX w q sb m:=⟨h.av.bg j.av,j.cell,j.free⟩
theorem oU (j cap len a b c sb:Nat)(n:Int)(d:Array Int)(w:World)(L:bP w j cap d)(B:d.size=len)(U:a<len)(W:b<len)(X:c<len)(A:len≤1048576)(J:j≠sb)(E:w.cell? ⟨sb,0,none⟩=some (.int .i64 n))(I:w.frozen? ⟨sb,0,none⟩=false)(ad:0≤n)(a5:n≤900) :
  Calls Tryz.prog 255 #[.slice (some ⟨j,0,none⟩) len cap,.int .i64 a,.int .i64 b,.int .i64 c,.pointer (some ⟨sb,0,none⟩)] w fun e w'=>
   ∃(x:Nat) (m:Int),e=.returned (.int .i64 x)∧(x=a∨x=b∨x=c)∧0≤m∧m≤n+3∧gX w w' sb m:=by
 have z:=aa L
 have t:=aa B
 clear L B
 go_enter Tryz.func255,Tryz.ntmps255
 go_wp2_with fail
 refine(o9 j cap len a b sb n d w z.out t.out U W A E I ad (by omega)).mono ?_
 rintro e w1 ⟨N,S,aw,rfl,U,W,Y,L,B⟩
 have al:N<len:=by omega
 have av:S<len:=by omega
 have q:=aa B
 clear B E I
 go_wp2_with fail
 refine(o9 j cap len S c sb aw d w1 (z.out.box q.out J) t.out av X A q.out.cell q.out.free Y (by omega)).mono ?_
 rintro e a3 ⟨O,a7,a0,rfl,I,L,Z,E,B⟩
 have am:O<len:=by omega
 have s:=aa (q.out.trans B)
 clear B
 go_wp2_with fail
 refine(o9 j cap len N O sb a0 d a3 (z.out.box s.out J) t.out al am A s.out.cell s.out.free Z (by omega)).mono ?_
 rintro e j ⟨a6,a4,a1,rfl,t,z,ab,q,j⟩
 have T:=aa (s.out.trans j)
 clear j
 go_wp2
 go_ret
 exact⟨a4,a1,rfl,by omega,ab,by omega,T.out⟩
theorem nJ (j cap len a sb:Nat)(n:Int)(d:Array Int)(w:World)(A:bP w j cap d)(z:d.size=len)(q:1≤a)(I:a+1<len)(S:len≤1048576)(O:j≠sb)(s:w.cell? ⟨sb,0,none⟩=some (.int .i64 n))(t:w.frozen? ⟨sb,0,none⟩=false)(L:0≤n)(N:n≤900) :
  Calls Tryz.prog 254 #[.slice (some ⟨j,0,none⟩) len cap,.int .i64 a,.pointer (some ⟨sb,0,none⟩)] w fun e w'=>
   ∃(x:Nat) (m:Int),e=.returned (.int .i64 x)∧(a≤x+1∧x≤a+1)∧0≤m∧m≤n+3∧gX w w' sb m:=by
 have q:=oU j cap len (a-1) a (a+1) sb n d w A z (by omega) (by omega) I S O s t L N
 rw[show((a-1:Nat):Int)=(a:Int)-1 by omega,show((a+1:Nat):Int)=(a:Int)+1 by omega]at q
 have E:=aa q
 clear q A z s t
 go_enter Tryz.func254,Tryz.ntmps254
 go_wp2_with fail
 refine E.out.mono ?_
 rintro e w1 ⟨U,T,rfl,s,J,q,j⟩
 have B:=aa j
 clear j
 go_wp2
 go_ret
 exact⟨U,T,rfl,by omega,J,by omega,B.out⟩
theorem gX.ad {w w':World}{o:Obj}{m:Int}(h:gX (w.alloc o) w' w.heap.size m):ae w w':=by
 have j:af (fun k=>k=w.heap.size) w w':=((af.refl _ w).alloc o).bg h.av;exact j.ad (fun k j=>by omega)
theorem wO (s cap len a b:Nat)(d:Array Int)(w:World)(z:bP w s cap d)(ab:d.size=len)(bs:a+13≤b)(bt:b≤len)(T:len≤1048576) :
  Calls Tryz.prog 219 #[.slice (some ⟨s,0,none⟩) len cap,.int .i64 a,.int .i64 b] w fun e w'=>
   ∃(p:Nat) (h:Int),e=.returned (.tuple #[.int .i64 p,.int .i64 h])∧a≤p∧p<b∧(h=0∨h=1∨h=2)∧ae w w':=by
 have q:s≠w.heap.size:=by have:=z.lt;omega
 obtain⟨j,ad⟩:∃j:Nat,j=(b-a) / 4:=⟨_,rfl⟩
 have bs:3≤j:=by omega
 have bs:4*j≤b-a:=by omega
 have bs:((b:Int)-(a:Int)) / 4=(j:Int):=by omega
 have bs:=aa ad
 have a1:=aa z
 have I:=aa ab
 clear ad z ab
 have z:(8:Int)≤(b:Int)-(a:Int):=by omega
 have W:(w.alloc (.cells #[.int .i64 0] 3)).cell? ⟨w.heap.size,0,none⟩=some (.int .i64 0):=by simp[go_sem]
 have Z:(w.alloc (.cells #[.int .i64 0] 3)).frozen? ⟨w.heap.size,0,none⟩=false:=by simp[go_sem]
 have J:Hid (bP (w.alloc (.cells #[.int .i64 0] 3)) s cap d):=aa (a1.out.a4 (G:=fun _=>False) ((af.refl _ w).alloc _) (fun h=>h))
 have X:=aa W
 have Y:=aa Z
 clear W Z
 by_cases z:(50:Int)≤(b:Int)-(a:Int)
 ·have L:((a+j:Nat):Int)=(a:Int)+(j:Int):=by omega
  have N:((a+j*2:Nat):Int)=(a:Int)+(j:Int)*2:=by omega
  have O:((a+j*3:Nat):Int)=(a:Int)+(j:Int)*3:=by omega
  have z:=nJ s cap len (a+j) w.heap.size 0 d _ J.out I.out (by omega) (by omega) T q X.out Y.out (by omega) (by omega);rw[L]at z;have a3:=aa z;have al:=aa N;have am:=aa O;clear z L N O;go_enter Tryz.func219,Tryz.ntmps219;go_wp2_with fail;refine a3.out.mono ?_;rintro e w1 ⟨bp,bb,rfl,ab,Z,W,z⟩;have W:=nJ s cap len (a+j*2) w.heap.size bb d w1 (J.out.box z q) I.out (by omega) (by omega) T q z.cell z.free Z (by omega);rw[al.out]at W;have a4:=aa W;have av:=aa z;clear W z;go_wp2_with fail;refine a4.out.mono ?_;rintro e bg ⟨bq,bd,rfl,ab,Z,W,z⟩;have z:=av.out.trans z;have W:=nJ s cap len (a+j*3) w.heap.size bd d bg (J.out.box z q) I.out (by omega) (by omega) T q z.cell z.free Z (by omega);rw[am.out]at W;have a5:=aa W;have aw:=aa z;clear W z;go_wp2_with fail;refine a5.out.mono ?_;rintro e bi ⟨br,be,rfl,ab,W,Z,z⟩;have z:=aw.out.trans z;have E:=oU s cap len bp bq br w.heap.size be d bi (J.out.box z q) I.out (by omega) (by omega) (by omega) T q z.cell z.free W (by omega);have U:=aa E;have a0:=aa z;clear E z;go_wp2_with fail;refine U.out.mono ?_;rintro e bn ⟨x,bf,rfl,a',a7,a8,S⟩;have t:=aa (a0.out.trans S);clear S;have A:x<b:=by omega
  have B:a≤x:=by omega
  have a6:=t.out.cell;clear q;go_wp2;all_goals refine aq (results_tmp2 rfl _ _ _) rfl ?_
  ·exact⟨x,1,rfl,B,A,by omega,t.out.ad⟩
  ·exact⟨x,2,rfl,B,A,by omega,t.out.ad⟩
  ·exact⟨x,0,rfl,B,A,by omega,t.out.ad⟩
 ·have L:((a+j:Nat):Int)=(a:Int)+(j:Int):=by omega
  have N:((a+j*2:Nat):Int)=(a:Int)+(j:Int)*2:=by omega
  have O:((a+j*3:Nat):Int)=(a:Int)+(j:Int)*3:=by omega
  have E:=oU s cap len (a+j) (a+j*2) (a+j*3) w.heap.size 0 d _ J.out I.out (by omega) (by omega) (by omega) T q X.out Y.out (by omega) (by omega);rw[L,N,O]at E;have U:=aa E;clear E L N O;go_enter Tryz.func219,Tryz.ntmps219;go_wp2_with fail;refine U.out.mono ?_;rintro e bn ⟨x,bf,rfl,a',a7,a8,S⟩;have t:=aa S;clear S;have A:x<b:=by omega
  have B:a≤x:=by omega
  have a6:=t.out.cell;clear q;go_wp2;all_goals refine aq (results_tmp2 rfl _ _ _) rfl ?_
  ·exact⟨x,1,rfl,B,A,by omega,t.out.ad⟩
  ·exact⟨x,0,rfl,B,A,by omega,t.out.ad⟩
end Go.Proofs.YtafkamlhimkbmaaGreat
