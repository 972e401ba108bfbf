/-
  slices.Sort at uint32, part 1: how the row lies, cmp.Less, insertionSortOrdered.
-/
import Derived.Test.YtafkamlhimkbmaaGreatPSFindA
import Derived.BigRegion
import Derived.CellFam
import Derived.IntWalk
namespace Go.Proofs.YtafkamlhimkbmaaGreat
set_option maxRecDepth 1000000
set_option maxHeartbeats 8000000
set_option linter.unusedSimpArgs false
set_option linter.unusedVariables false
open Go.RowKit Go.Sort
def bE (w:World)(t cap:Nat)(d:Array Int):Prop:=
 ∃s:Array Value,w.heap[t]?=some (.cells s 50 (0,0))∧s.size=cap∧d.size≤cap∧∀t,t<d.size→s[t]?=some (.int .u32 d[t]!)
structure aL (w wr:World)(blk cap:Nat)(d:Array Int):Prop where
 upd:af (fun k=>k=blk) w wr
 row:bE wr blk cap d
theorem bE.cell {w:World}{t cap:Nat}{d:Array Int}(h:bE w t cap d):∀s,s<d.size→w.cell? ⟨t,s,none⟩=some (.int .u32 d[s]!):=by
 obtain⟨D,u,_,_,z⟩:=h;intro s D;rw[cell_of_row w t s _ _ _ u];exact z s D
theorem bE.frozen {w:World}{s cap:Nat}{d:Array Int}(h:bE w s cap d):∀t,w.frozen? ⟨s,t,none⟩=false:=by
 obtain⟨s,u,_⟩:=h;intro t;unfold World.frozen?;rw[u];rfl
theorem bE.lt {w:World}{s cap:Nat}{d:Array Int}(h:bE w s cap d):s<w.heap.size:=by
 obtain⟨t,s,_⟩:=h;exact bu s
theorem bE.keep {G:Nat→Prop}{w t:World}{s cap:Nat}{d:Array Int}(h:bE w s cap d)(E:af G w t)(D:¬G s):bE t s cap d:=by
 obtain⟨u,t,z⟩:=h;exact⟨u,(E.block s (bu t) D).trans t,z⟩
theorem zn (d:Array Int)(i j s:Nat)(hi:i<d.size)(z:j<d.size):(swp d i j)[s]! = if s = j then d[i]! else if s = i then d[j]! else d[s]!:=by
 by_cases t:s=j;·subst t;rw[ai rfl];exact swp_right d i s z
 ·rw[ag t];by_cases u:s=i;·subst u;rw[ai rfl];exact swp_left d s j hi t
  ·rw[ag u];exact swp_other d i j s u t
theorem bE.b8 {w:World}{s cap:Nat}{d:Array Int}(h:bE w s cap d)(i j:Nat)(hi:i<d.size)(Q:j<d.size) :
  bE ((w.setCell ⟨s,i,none⟩ (.int .u32 d[j]!)).setCell ⟨s,j,none⟩ (.int .u32 d[i]!)) s cap (swp d i j):=by
 obtain⟨I,J,D,N,O⟩:=h
 refine⟨(I.setIfInBounds i (.int .u32 d[j]!)).setIfInBounds j (.int .u32 d[i]!),?_,by simp[D],by rw[size_swp];exact N,?_⟩
 ·have I:=heap_setCell_same w s i _ _ (.int .u32 d[j]!) J;exact heap_setCell_same _ s j _ _ (.int .u32 d[i]!) I
 ·intro u E;rw[size_swp]at E;rw[zn d i j u hi Q];simp only[ia,Array.size_setIfInBounds,D];by_cases t:u=j;·subst t;simp;omega
  ·by_cases z:u=i;·subst z;simp[t,Ne.symm t];omega
   ·simp[t,z,Ne.symm t,Ne.symm z,O u E]
theorem aL.b8 {w wr:World}{s cap:Nat}{d:Array Int}(h:aL w wr s cap d)(n:Nat)(i j:Nat)(hi:i<d.size)(t:j<d.size) :
  aL w (((wr.drewN n).setCell ⟨s,i,none⟩ (.int .u32 d[j]!)).setCell ⟨s,j,none⟩ (.int .u32 d[i]!)) s cap (swp d i j):=
 ⟨((h.upd.drewN n).setCell (p:=⟨s,i,none⟩) (Or.inl rfl) _).setCell (p:=⟨s,j,none⟩) (Or.inl rfl) _,bE.b8 (w:=wr.drewN n) h.row i j hi t⟩
theorem aL.drewN {w wr:World}{s cap:Nat}{d:Array Int}(h:aL w wr s cap d)(n:Nat):aL w (wr.drewN n) s cap d:=⟨h.upd.drewN n,h.row⟩
theorem aL.self {w:World}{s cap:Nat}{d:Array Int}(h:bE w s cap d):aL w w s cap d:=⟨af.refl _ _,h⟩
theorem aL.trans {w w1 z:World}{s cap:Nat}{d t:Array Int}(h:aL w w1 s cap d)(u:aL w1 z s cap t):aL w z s cap t:=⟨h.upd.bd u.upd,u.row⟩
theorem uz (x:Int)(w:World):Calls Tryz.prog 256 #[.int .u32 x] w fun e s=>e=.returned (.bool false)∧s=w:=by
 go_enter Tryz.func256,Tryz.ntmps256;go_wp2;go_ret;exact⟨rfl,rfl⟩
theorem aV (x y:Int)(w:World):Calls Tryz.prog 222 #[.int .u32 x,.int .u32 y] w fun e s=>e=.returned (.bool (ltInt x y))∧s=w:=by
 go_enter Tryz.func222,Tryz.ntmps222;go_wp2_with (go_at_call 256;refine(uz _ _).mono ?_;rintro e s ⟨rfl,rfl⟩)
 all_goals go_ret
 all_goals(refine⟨?_,rfl⟩)
 all_goals simp_all [ltInt]
theorem uq (a j:Nat)(d:Array Int)(t:a<j)(s:ltInt d[j]! d[j-1]! = true):insInner ltInt a j d = insInner ltInt a (j-1) (swp d j (j-1)):=by
 obtain⟨k,rfl⟩:∃k,j=k+1:=⟨j-1,by omega⟩;simp only[Nat.add_sub_cancel]at s ⊢;rw[insInner];simp[t,s]
theorem oh (a j:Nat)(d:Array Int)(h:j≤a∨ltInt d[j]! d[j-1]! = false):insInner ltInt a j d = d:=by
 cases j with
 |zero=>rw[insInner]
 |succ k=>
  rw[insInner];simp only[Nat.add_sub_cancel]at h;rcases h with h|h;·simp[show¬k+1 > a by omega]
  ·simp[h]
theorem om (a b i:Nat)(d:Array Int)(h:i<b):insOuter ltInt a b i d=insOuter ltInt a b (i+1) (insInner ltInt a i d):=by rw[insOuter,ai h]
theorem ur (a b i:Nat)(d:Array Int)(h:¬i<b):insOuter ltInt a b i d=d:=by rw[insOuter,ag h]
theorem eC (b:Bool):b=false∨b=true:=by cases b<;>simp
theorem uu (u cap len a b:Nat)(d:Array Int)(w:World)(W:bE w u cap d)(J:d.size=len)(ah:a≤b)(ay:b≤len)(a2:len≤1048576) :
  Calls Tryz.prog 216 #[.slice (some ⟨u,0,none⟩) len cap,.int .i64 a,.int .i64 b] w fun e ab=>
   e=.returned (.tuple #[])∧aL w ab u cap (insertionSort ltInt d a b):=by
 go_enter Tryz.func216,Tryz.ntmps216
 go_wp2
 go_loopg [6] (b+1) (fun gk ab wr=>∃(i:Nat) (t:Array Int),gk+i=b+1+(a+1)∧ab=.int .i64 (i:Int)∧a<i∧i≤b+1∧t.size=len∧aL w wr u cap t∧insOuter ltInt a b i t=insOuter ltInt a b (a+1) d)
 case atStart=>exact⟨a+1,d,by omega,by go_num,by omega,by omega,J,aL.self W,rfl⟩
 case round=>
  obtain⟨i,t,a1,rfl,ay,a2,ah,hS,ab⟩:=hrel;have X:=aa hS;have O:=aa ab;have ay:=aa W;have ay:=aa J;have av:=aa ah;clear hS ab W J ah;by_cases V:i<b
  ·obtain⟨Y,rfl⟩:∃x:Nat,x=gk:=⟨_,rfl⟩;obtain⟨a3,rfl⟩:∃x:World,x=wr:=⟨_,rfl⟩;go_wp2;go_loopg [7] i (fun J W ab=>∃(j:Nat) (s:Array Int),J=j∧W=.int .i64 (j:Int)∧a≤j∧j≤i∧s.size=len∧aL w ab u cap s∧insInner ltInt a j s=insInner ltInt a i t)
   case atStart=>exact⟨i,t,rfl,rfl,by omega,aI _,av.out,X.out,rfl⟩
   case round=>
    obtain⟨j,s,a0,rfl,J,W,ad,D,Z⟩:=hrel;obtain⟨g,I⟩:∃g:Nat→Int,∀J,g J=s[J]!:=⟨fun J=>s[J]!,fun _=>rfl⟩;have J:j<len:=(by omega);have J:wr.cell? ⟨u,j,none⟩=some (.int .u32 (g j)):=(by rw[I];exact D.row.cell j (by omega));have J:wr.cell? ⟨u,j-1,none⟩=some (.int .u32 (g (j-1))):=(by rw[I];exact D.row.cell (j-1) (by omega));have J:wr.frozen? ⟨u,j,none⟩=false:=D.row.frozen j;have J:wr.frozen? ⟨u,j-1,none⟩=false:=D.row.frozen (j-1);have z:=aa I;have T:=aa D;have N:=aa Z;have E:=aa ad;clear I D Z ad;by_cases ax:a<j
    ·have u:((j:Int)-1).toNat=j-1:=(by omega);have u:(0:Int)≤(j:Int)-1:=(by omega);have u:(j:Int)-1<(len:Int):=(by omega);have u:(j:Int)<(len:Int):=(by omega);have al:(a:Int)<(j:Int):=(by omega);rcases eC (ltInt (g j) (g (j-1)))with U|U
     ·have Q:Hid (insOuter ltInt a b (i+1) s=insOuter ltInt a b (a+1) d):=aa (by
       rw[←O.out,om a b i t V,←N.out,oh a j s (.inr (by rw[←z.out,←z.out];exact U))])
      go_wp2_with fail;go_quiet ((go_at_call 222;exact aU (aV _ _ _)));go_wp2;go_roundg (Y-1)
      case rel=>exact⟨i+1,s,by omega,by go_num,by omega,by omega,E.out,T.out.drewN nq,Q.out⟩
      case measure=>omega
     ·have am:Hid (insInner ltInt a (j-1) (swp s j (j-1))=insInner ltInt a i t):=aa (by
       rw[←N.out,uq a j s ax (by rw[←z.out,←z.out];exact U)])
      have u:=fun n=>T.out.b8 n j (j-1) (by rw[E.out];omega) (by rw[E.out];omega);rw[←z.out,←z.out]at u;have aw:=aa u;clear u;go_wp2_with fail;go_quiet ((go_at_call 222;exact aU (aV _ _ _)));go_wp2;go_region;all_goals go_wp2
      go_roundg (gk-1)
      case rel=>exact⟨j-1,swp s j (j-1),by omega,by congr 1;omega,by omega,by omega,by rw[size_swp];exact E.out,aw.out (nq+1),am.out⟩
      case measure=>omega
    ·have al:decide ((a:Int)<(j:Int))=false:=bQ (by omega)
     have Q:Hid (insOuter ltInt a b (i+1) s=insOuter ltInt a b (a+1) d):=aa (by
      rw[←O.out,om a b i t V,←N.out,oh a j s (.inl (by omega))])
     go_wp2_with fail;go_quiet ((go_at_call 222;exact aU (aV _ _ _)));go_wp2;go_roundg (Y-1)
     case rel=>exact⟨i+1,s,by omega,by go_num,by omega,by omega,E.out,T.out.drewN nq,Q.out⟩
     case measure=>omega
  ·have al:¬(i:Int)<(b:Int):=(by omega);go_wp2;go_end0;exact⟨rfl,by unfold insertionSort;rw[←O.out,ur a b i t V];exact X.out⟩
theorem yL {hi F root:Nat}(d:Array Int)(h:hi≤2*root+1):siftDown ltInt hi F root d=d:=by rw[siftDown,dif_pos h]
theorem mK {hi F root c:Nat}(d:Array Int)(h:2*root+1<hi)(D:(2*root+2<hi∧ltInt d[F+(2*root+1)]! d[F+(2*root+2)]! = true∧c = 2*root+2)∨((2*root+2<hi→ltInt d[F+(2*root+1)]! d[F+(2*root+2)]! = false)∧c = 2*root+1)) :
  siftDown ltInt hi F root d = if ltInt d[F+root]! d[F+c]! = true then siftDown ltInt hi F c (swp d (F+root) (F+c))else d:=by
 rw[siftDown,dif_neg (by omega),show F+(2*root+1)+1=F+(2*root+2) by omega]
 rcases D with⟨t,u,rfl⟩|⟨t,rfl⟩
 ·have s:2*root+1+1<hi:=by omega
  rw[u];simp[s];cases ltInt d[F+root]! d[F+(2*root+2)]!<;>simp
 ·have s:(decide (2*root+1+1<hi)&&ltInt d[F+(2*root+1)]! d[F+(2*root+2)]!)=false:=by
   by_cases z:2*root+2<hi;·simp[t z]
   ·simp[show¬2*root+1+1<hi by omega]
  rw[s];simp;cases ltInt d[F+root]! d[F+(2*root+1)]!<;>simp
theorem mI (t cap len lo hi first:Nat)(d:Array Int)(w:World)(a8:bE w t cap d)(a7:d.size=len)(ay:lo≤hi)(bd:first+hi≤len)(bh:len≤1048576) :
  Calls Tryz.prog 251 #[.slice (some ⟨t,0,none⟩) len cap,.int .i64 lo,.int .i64 hi,.int .i64 first] w fun e bc=>
   e=.returned (.tuple #[])∧aL w bc t cap (siftDown ltInt hi first lo d):=by
 go_enter Tryz.func251,Tryz.ntmps251
 go_wp2
 go_loopg [8] (hi-lo) (fun gk bc wr=>∃(root:Nat) (E:Array Int),hi-root≤gk∧bc=.int .i64 (root:Int)∧root≤hi∧E.size=len∧aL w wr t cap E∧siftDown ltInt hi first root E=siftDown ltInt hi first lo d)
 case atStart=>exact⟨lo,d,by omega,rfl,ay,a7,aL.self a8,rfl⟩
 case round=>
  obtain⟨root,E,be,rfl,ay,a9,hS,a5⟩:=hrel;obtain⟨g,a6⟩:∃g:Nat→Int,∀ay,g ay=E[ay]!:=⟨fun ay=>E[ay]!,fun _=>rfl⟩;have u:=aa a6;have Q:=aa hS;have ad:=aa a5;have D:=aa a9;clear a6 hS a5 a9 a8 a7;by_cases a':hi≤2*root+1
  ·have ba:(hi:Int)≤2*(root:Int)+1:=(by omega);go_wp2;first|go_end0|refine an (results_none rfl _ _ _) rfl ?_
   exact⟨rfl,by rw[←ad.out,yL E a'];exact Q.out⟩
  ·have ba:2*(root:Int)+1<(hi:Int):=(by omega);have ay:((first:Int)+(2*(root:Int)+1)).toNat=first+(2*root+1):=by omega
   have ay:(0:Int)≤(first:Int)+(2*(root:Int)+1):=(by omega);have ay:(first:Int)+(2*(root:Int)+1)<(len:Int):=(by omega);have ay:((first:Int)+(root:Int)).toNat=first+root:=by omega
   have ay:(0:Int)≤(first:Int)+(root:Int):=(by omega);have ay:(first:Int)+(root:Int)<(len:Int):=(by omega);by_cases a4:2*root+2<hi
   ·have bb:2*(root:Int)+1+1<(hi:Int):=(by omega);have ay:((first:Int)+(2*(root:Int)+1)+1).toNat=first+(2*root+2):=by omega
    have ay:(0:Int)≤(first:Int)+(2*(root:Int)+1)+1:=(by omega);have ay:(first:Int)+(2*(root:Int)+1)+1<(len:Int):=(by omega);have ay:((first:Int)+(2*(root:Int)+1+1)).toNat=first+(2*root+2):=by omega
    have ay:(0:Int)≤(first:Int)+(2*(root:Int)+1+1):=(by omega);have ay:(first:Int)+(2*(root:Int)+1+1)<(len:Int):=(by omega);have am:wr.cell? ⟨t,first+(2*root+1),none⟩=some (.int .u32 (g (first+(2*root+1)))):=(by rw[u.out];exact Q.out.row.cell (first+(2*root+1)) (by rw[D.out];omega));have aw:wr.frozen? ⟨t,first+(2*root+1),none⟩=false:=Q.out.row.frozen (first+(2*root+1));have av:wr.cell? ⟨t,first+(2*root+2),none⟩=some (.int .u32 (g (first+(2*root+2)))):=(by rw[u.out];exact Q.out.row.cell (first+(2*root+2)) (by rw[D.out];omega));have ax:wr.frozen? ⟨t,first+(2*root+2),none⟩=false:=Q.out.row.frozen (first+(2*root+2));rcases eC (ltInt (g (first+(2*root+1))) (g (first+(2*root+2))))with ah|ah
    ·skip
     have ab:=mK (hi:=hi) (root:=root) (F:=first) (c:=2*root+1) E (by omega) (.inr ⟨fun h=>by rw[←u.out,←u.out];exact ah,rfl⟩);have V:=aa ab;clear ab;rcases eC (ltInt (g (first+root)) (g (first+(2*root+1))))with U|U
     ·have J:ltInt E[first+root]! E[first+(2*root+1)]! = false:=(by rw[←u.out,←u.out];exact U);have O:Hid (siftDown ltInt hi first lo d=E):=aa (by rw[←ad.out,V.out,ag (by rw[J];simp)]);clear J;go_wp2_with fail;go_quiet ((go_at_call 222;exact aU (aV _ _ _)));go_wp2_with fail;have s:=Q.out.drewN nq;generalize wr.drewN nq=z at s ⊢;clear nq;clear am av aw ax ah;have s:=aa s;have W:z.cell? ⟨t,first+root,none⟩=some (.int .u32 (g (first+root))):=(by rw[u.out];exact s.out.row.cell (first+root) (by rw[D.out];omega));have Y:z.frozen? ⟨t,first+root,none⟩=false:=s.out.row.frozen (first+root);have X:z.cell? ⟨t,first+(2*root+1),none⟩=some (.int .u32 (g (first+(2*root+1)))):=(by rw[u.out];exact s.out.row.cell (first+(2*root+1)) (by rw[D.out];omega));have Z:z.frozen? ⟨t,first+(2*root+1),none⟩=false:=s.out.row.frozen (first+(2*root+1));go_quiet ((go_at_call 222;exact aU (aV _ _ _)));go_wp2;first|go_end0|refine an (results_none rfl _ _ _) rfl ?_
      exact⟨rfl,by rw[O.out];exact s.out.drewN nq⟩
     ·have J:ltInt E[first+root]! E[first+(2*root+1)]! = true:=(by rw[←u.out,←u.out];exact U);have O:Hid (siftDown ltInt hi first (2*root+1) (swp E (first+root) (first+(2*root+1)))=siftDown ltInt hi first lo d):=aa (by rw[←ad.out,V.out,ai J]);clear J;go_wp2_with fail;go_quiet ((go_at_call 222;exact aU (aV _ _ _)));go_wp2_with fail;have s:=Q.out.drewN nq;generalize wr.drewN nq=z at s ⊢;clear nq;clear am av aw ax ah;have s:=aa s;have W:z.cell? ⟨t,first+root,none⟩=some (.int .u32 (g (first+root))):=(by rw[u.out];exact s.out.row.cell (first+root) (by rw[D.out];omega));have Y:z.frozen? ⟨t,first+root,none⟩=false:=s.out.row.frozen (first+root);have X:z.cell? ⟨t,first+(2*root+1),none⟩=some (.int .u32 (g (first+(2*root+1)))):=(by rw[u.out];exact s.out.row.cell (first+(2*root+1)) (by rw[D.out];omega));have Z:z.frozen? ⟨t,first+(2*root+1),none⟩=false:=s.out.row.frozen (first+(2*root+1));go_quiet ((go_at_call 222;exact aU (aV _ _ _)));go_wp2_with fail;have I:=s.out.drewN nq;generalize z.drewN nq=N at I ⊢;clear nq W X Y Z;have I:=aa I;have a0:N.cell? ⟨t,first+root,none⟩=some (.int .u32 (g (first+root))):=(by rw[u.out];exact I.out.row.cell (first+root) (by rw[D.out];omega));have a2:N.frozen? ⟨t,first+root,none⟩=false:=I.out.row.frozen (first+root);have a1:N.cell? ⟨t,first+(2*root+1),none⟩=some (.int .u32 (g (first+(2*root+1)))):=(by rw[u.out];exact I.out.row.cell (first+(2*root+1)) (by rw[D.out];omega));have a3:N.frozen? ⟨t,first+(2*root+1),none⟩=false:=I.out.row.frozen (first+(2*root+1));have T:=fun n=>I.out.b8 n (first+root) (first+(2*root+1)) (by rw[D.out];omega) (by rw[D.out];omega);rw[←u.out,←u.out]at T;have al:=aa T;clear T;go_region;all_goals go_wp2
      go_roundg (gk-1)
      case rel=>exact⟨2*root+1,_,by omega,by first|rfl|go_num|(congr 1;omega),by omega,by rw[size_swp];exact D.out,al.out 1,O.out⟩
      case measure=>omega
    ·skip
     have ab:=mK (hi:=hi) (root:=root) (F:=first) (c:=2*root+2) E (by omega) (.inl ⟨a4,by rw[←u.out,←u.out];exact ah,rfl⟩);have V:=aa ab;clear ab;rcases eC (ltInt (g (first+root)) (g (first+(2*root+2))))with U|U
     ·have J:ltInt E[first+root]! E[first+(2*root+2)]! = false:=(by rw[←u.out,←u.out];exact U);have O:Hid (siftDown ltInt hi first lo d=E):=aa (by rw[←ad.out,V.out,ag (by rw[J];simp)]);clear J;go_wp2_with fail;go_quiet ((go_at_call 222;exact aU (aV _ _ _)));go_wp2_with fail;have s:=Q.out.drewN nq;generalize wr.drewN nq=z at s ⊢;clear nq;clear am av aw ax ah;have s:=aa s;have W:z.cell? ⟨t,first+root,none⟩=some (.int .u32 (g (first+root))):=(by rw[u.out];exact s.out.row.cell (first+root) (by rw[D.out];omega));have Y:z.frozen? ⟨t,first+root,none⟩=false:=s.out.row.frozen (first+root);have X:z.cell? ⟨t,first+(2*root+2),none⟩=some (.int .u32 (g (first+(2*root+2)))):=(by rw[u.out];exact s.out.row.cell (first+(2*root+2)) (by rw[D.out];omega));have Z:z.frozen? ⟨t,first+(2*root+2),none⟩=false:=s.out.row.frozen (first+(2*root+2));go_quiet ((go_at_call 222;exact aU (aV _ _ _)));go_wp2;first|go_end0|refine an (results_none rfl _ _ _) rfl ?_
      exact⟨rfl,by rw[O.out];exact s.out.drewN nq⟩
     ·have J:ltInt E[first+root]! E[first+(2*root+2)]! = true:=(by rw[←u.out,←u.out];exact U);have O:Hid (siftDown ltInt hi first (2*root+2) (swp E (first+root) (first+(2*root+2)))=siftDown ltInt hi first lo d):=aa (by rw[←ad.out,V.out,ai J]);clear J;go_wp2_with fail;go_quiet ((go_at_call 222;exact aU (aV _ _ _)));go_wp2_with fail;have s:=Q.out.drewN nq;generalize wr.drewN nq=z at s ⊢;clear nq;clear am av aw ax ah;have s:=aa s;have W:z.cell? ⟨t,first+root,none⟩=some (.int .u32 (g (first+root))):=(by rw[u.out];exact s.out.row.cell (first+root) (by rw[D.out];omega));have Y:z.frozen? ⟨t,first+root,none⟩=false:=s.out.row.frozen (first+root);have X:z.cell? ⟨t,first+(2*root+2),none⟩=some (.int .u32 (g (first+(2*root+2)))):=(by rw[u.out];exact s.out.row.cell (first+(2*root+2)) (by rw[D.out];omega));have Z:z.frozen? ⟨t,first+(2*root+2),none⟩=false:=s.out.row.frozen (first+(2*root+2));go_quiet ((go_at_call 222;exact aU (aV _ _ _)));go_wp2_with fail;have I:=s.out.drewN nq;generalize z.drewN nq=N at I ⊢;clear nq W X Y Z;have I:=aa I;have a0:N.cell? ⟨t,first+root,none⟩=some (.int .u32 (g (first+root))):=(by rw[u.out];exact I.out.row.cell (first+root) (by rw[D.out];omega));have a2:N.frozen? ⟨t,first+root,none⟩=false:=I.out.row.frozen (first+root);have a1:N.cell? ⟨t,first+(2*root+2),none⟩=some (.int .u32 (g (first+(2*root+2)))):=(by rw[u.out];exact I.out.row.cell (first+(2*root+2)) (by rw[D.out];omega));have a3:N.frozen? ⟨t,first+(2*root+2),none⟩=false:=I.out.row.frozen (first+(2*root+2));have T:=fun n=>I.out.b8 n (first+root) (first+(2*root+2)) (by rw[D.out];omega) (by rw[D.out];omega);rw[←u.out,←u.out]at T;have al:=aa T;clear T;go_region;all_goals go_wp2
      go_roundg (gk-1)
      case rel=>exact⟨2*root+2,_,by omega,by first|rfl|go_num|(congr 1;omega),by omega,by rw[size_swp];exact D.out,al.out 1,O.out⟩
      case measure=>omega
   ·have bb:decide (2*(root:Int)+1+1<(hi:Int))=false:=bQ (by omega);have ab:=mK (hi:=hi) (root:=root) (F:=first) (c:=2*root+1) E (by omega) (.inr ⟨fun h=>absurd h a4,rfl⟩);have V:=aa ab;clear ab;rcases eC (ltInt (g (first+root)) (g (first+(2*root+1))))with U|U
    ·have J:ltInt E[first+root]! E[first+(2*root+1)]! = false:=(by rw[←u.out,←u.out];exact U);have O:Hid (siftDown ltInt hi first lo d=E):=aa (by rw[←ad.out,V.out,ag (by rw[J];simp)]);clear J;go_wp2_with fail;go_quiet ((go_at_call 222;exact aU (aV _ _ _)));go_wp2_with fail;have s:=Q.out.drewN nq;generalize wr.drewN nq=z at s ⊢;clear nq;have s:=aa s;have W:z.cell? ⟨t,first+root,none⟩=some (.int .u32 (g (first+root))):=(by rw[u.out];exact s.out.row.cell (first+root) (by rw[D.out];omega));have Y:z.frozen? ⟨t,first+root,none⟩=false:=s.out.row.frozen (first+root);have X:z.cell? ⟨t,first+(2*root+1),none⟩=some (.int .u32 (g (first+(2*root+1)))):=(by rw[u.out];exact s.out.row.cell (first+(2*root+1)) (by rw[D.out];omega));have Z:z.frozen? ⟨t,first+(2*root+1),none⟩=false:=s.out.row.frozen (first+(2*root+1));go_quiet ((go_at_call 222;exact aU (aV _ _ _)));go_wp2;first|go_end0|refine an (results_none rfl _ _ _) rfl ?_
     exact⟨rfl,by rw[O.out];exact s.out.drewN nq⟩
    ·have J:ltInt E[first+root]! E[first+(2*root+1)]! = true:=(by rw[←u.out,←u.out];exact U);have O:Hid (siftDown ltInt hi first (2*root+1) (swp E (first+root) (first+(2*root+1)))=siftDown ltInt hi first lo d):=aa (by rw[←ad.out,V.out,ai J]);clear J;go_wp2_with fail;go_quiet ((go_at_call 222;exact aU (aV _ _ _)));go_wp2_with fail;have s:=Q.out.drewN nq;generalize wr.drewN nq=z at s ⊢;clear nq;have s:=aa s;have W:z.cell? ⟨t,first+root,none⟩=some (.int .u32 (g (first+root))):=(by rw[u.out];exact s.out.row.cell (first+root) (by rw[D.out];omega));have Y:z.frozen? ⟨t,first+root,none⟩=false:=s.out.row.frozen (first+root);have X:z.cell? ⟨t,first+(2*root+1),none⟩=some (.int .u32 (g (first+(2*root+1)))):=(by rw[u.out];exact s.out.row.cell (first+(2*root+1)) (by rw[D.out];omega));have Z:z.frozen? ⟨t,first+(2*root+1),none⟩=false:=s.out.row.frozen (first+(2*root+1));go_quiet ((go_at_call 222;exact aU (aV _ _ _)));go_wp2_with fail;have I:=s.out.drewN nq;generalize z.drewN nq=N at I ⊢;clear nq W X Y Z;have I:=aa I;have a0:N.cell? ⟨t,first+root,none⟩=some (.int .u32 (g (first+root))):=(by rw[u.out];exact I.out.row.cell (first+root) (by rw[D.out];omega));have a2:N.frozen? ⟨t,first+root,none⟩=false:=I.out.row.frozen (first+root);have a1:N.cell? ⟨t,first+(2*root+1),none⟩=some (.int .u32 (g (first+(2*root+1)))):=(by rw[u.out];exact I.out.row.cell (first+(2*root+1)) (by rw[D.out];omega));have a3:N.frozen? ⟨t,first+(2*root+1),none⟩=false:=I.out.row.frozen (first+(2*root+1));have T:=fun n=>I.out.b8 n (first+root) (first+(2*root+1)) (by rw[D.out];omega) (by rw[D.out];omega);rw[←u.out,←u.out]at T;have al:=aa T;clear T;go_region;all_goals go_wp2
     go_roundg (gk-1)
     case rel=>exact⟨2*root+1,_,by omega,by first|rfl|go_num|(congr 1;omega),by omega,by rw[size_swp];exact D.out,al.out 1,O.out⟩
     case measure=>omega
theorem mJ (hi first root:Nat)(d:Array Int):(siftDown ltInt hi first root d).size=d.size:=by
 fun_induction siftDown ltInt hi first root d<;>simp_all [size_swp]
theorem t' (s cap len a b:Nat)(d:Array Int)(w:World)(a3:bE w s cap d)(a2:d.size=len)(a4:a<b)(bd:b≤len)(ad:len≤1048576) :
  Calls Tryz.prog 217 #[.slice (some ⟨s,0,none⟩) len cap,.int .i64 a,.int .i64 b] w fun e a0=>
   e=.returned (.tuple #[])∧aL w a0 s cap (heapSort ltInt d a b):=by
 go_enter Tryz.func217,Tryz.ntmps217
 go_wp2
 go_loopg [9] (b-a+1) (fun gk ah wr=>∃(k:Nat) (u:Array Int),k≤gk∧k≤(b-a-1) / 2+1∧ah=.int .i64 ((k:Int)-1)∧u.size=len∧aL w wr s cap u∧heapBuild ltInt (b-a) a k u=heapBuild ltInt (b-a) a ((b-a-1) / 2+1) d)
 case atStart=>exact⟨(b-a-1) / 2+1,d,by omega,aI _,by congr 1;omega,a2,aL.self a3,rfl⟩
 case round=>
  obtain⟨k,u,bh,bi,rfl,a4,hS,a0⟩:=hrel;have Y:=aa hS;have am:=aa a0;have X:=aa a4;clear hS a0 a4 a3 a2;cases k with
  |succ k=>
   have e:((k+1:Nat):Int)-1=(k:Int):=(by omega);rw[e];have W:Hid (heapBuild ltInt (b-a) a k (siftDown ltInt (b-a) a k u)=heapBuild ltInt (b-a) a ((b-a-1) / 2+1) d):=aa (by rw[←am.out];rfl);clear e;have D:=mI s cap len k (b-a) a u wr Y.out.row X.out (by omega) (by omega) ad;rw[show((b-a:Nat):Int)=(b:Int)-(a:Int) by omega]at D;have N:=aa D;clear D;go_wp2_with fail;refine N.out.mono ?_;rintro e a0 ⟨rfl,a0⟩;have a5:=aa (Y.out.trans a0);have O:=aa (mJ (b-a) a k u);clear a0;go_wp2;go_roundg (gk-1)
   case rel=>exact⟨k,_,by omega,by omega,rfl,by rw[O.out];exact X.out,a5.out,W.out⟩
   case measure=>omega
  |zero=>
   have W:Hid (heapBuild ltInt (b-a) a ((b-a-1) / 2+1) d=u):=aa am.out.symm;have Q:(((0:Nat):Int)-1)=-1:=rfl;rw[Q];clear Q;obtain⟨bt,rfl⟩:∃x:World,x=wr:=⟨_,rfl⟩;go_wp2_with fail;go_loopg [10] (b-a) (fun am ah wr=>∃(k:Nat) (t:Array Int),k≤am∧k≤b-a∧ah=.int .i64 ((k:Int)-1)∧t.size=len∧aL w wr s cap t∧heapPop ltInt a k t=heapPop ltInt a (b-a) u)
   case atStart=>exact⟨b-a,u,aI _,aI _,by congr 1;omega,X.out,Y.out,rfl⟩
   case round=>
    obtain⟨k,t,be,bn,rfl,ah,Y,X⟩:=hrel;have J:=aa Y;have av:=aa X;have E:=aa ah;clear Y X ah;cases k with
    |zero=>
     have Q:(((0:Nat):Int)-1)=-1:=rfl;rw[Q];clear Q;go_wp2;first|go_end0|refine an (results_none rfl _ _ _) rfl ?_
     exact⟨rfl,by unfold heapSort;rw[W.out,←av.out];exact J.out⟩
    |succ k=>
     have al:Hid (heapPop ltInt a k (siftDown ltInt k a 0 (swp t a (a+k)))=heapPop ltInt a (b-a) u):=aa (by rw[←av.out];rfl);obtain⟨g,a1⟩:∃g:Nat→Int,∀u,g u=t[u]!:=⟨fun u=>t[u]!,fun _=>rfl⟩;have V:=aa a1;clear a1;have ax:wr.cell? ⟨s,a,none⟩=some (.int .u32 (g a)):=(by rw[V.out];exact J.out.row.cell a (by rw[E.out];omega));have ay:wr.frozen? ⟨s,a,none⟩=false:=J.out.row.frozen a;have u:(a:Int)<(len:Int):=(by omega);have u:=fun n=>J.out.b8 n a (a+k) (by rw[E.out];omega) (by rw[E.out];omega);rw[←V.out,←V.out]at u;have aw:=aa u;clear u;rcases Nat.eq_zero_or_pos k with rfl|u
     ·have e:((0+1:Nat):Int)-1=0:=rfl;rw[e];clear e;have ab:True:=trivial;go_wp2_with fail;go_region;obtain⟨U,I⟩:∃x,x=((wr.setCell ⟨s,a,none⟩ (.int .u32 (g a))).setCell ⟨s,a,none⟩ (.int .u32 (g a))).drew:=⟨_,rfl⟩;have z:aL w U s cap (swp t a (a+0)):=(by rw[I];exact aw.out 1);have D:=mI s cap len 0 0 a (swp t a (a+0)) U z.row (by rw[size_swp];exact E.out) (by omega) (by omega) ad;have N:=aa D;have z:=aa z;rw[←I];clear D I ax ay ab;go_wp2_with fail;refine N.out.mono ?_;rintro e bc ⟨rfl,T⟩;have Z:=aa (z.out.trans T);have O:=aa (mJ 0 a 0 (swp t a (a+0)));clear T;go_wp2;go_roundg (gk-1)
      case rel=>exact⟨0,_,by omega,by omega,rfl,by rw[O.out,size_swp];exact E.out,Z.out,al.out⟩
      case measure=>omega
     ·have e:((k+1:Nat):Int)-1=(k:Int):=(by omega);rw[e];clear e;have a7:¬a+k=a:=(by omega);have a8:¬k=0:=(by omega);have a6:wr.cell? ⟨s,a+k,none⟩=some (.int .u32 (g (a+k))):=(by rw[V.out];exact J.out.row.cell (a+k) (by rw[E.out];omega));have ab:wr.frozen? ⟨s,a+k,none⟩=false:=J.out.row.frozen (a+k);have a9:((a:Int)+(k:Int)).toNat=a+k:=(by omega);have a':(0:Int)≤(a:Int)+(k:Int):=(by omega);have ba:(a:Int)+(k:Int)<(len:Int):=(by omega);have bb:IntKind.i64.wrap ((a:Int)+(k:Int))=(a:Int)+(k:Int):=IntWalk.i64_in _ ⟨by omega,by omega⟩;go_wp2_with fail;go_region;clear bb a7 a8 a6 a9 a' ba;obtain⟨U,I⟩:∃x,x=((wr.setCell ⟨s,a,none⟩ (.int .u32 (g (a+k)))).setCell ⟨s,a+k,none⟩ (.int .u32 (g a))).drew:=⟨_,rfl⟩;have z:aL w U s cap (swp t a (a+k)):=(by rw[I];exact aw.out 1);have D:=mI s cap len 0 k a (swp t a (a+k)) U z.row (by rw[size_swp];exact E.out) (by omega) (by omega) ad;have N:=aa D;have z:=aa z;rw[←I];clear D I ax ay ab;go_wp2_with fail;refine N.out.mono ?_;rintro e bc ⟨rfl,T⟩;have Z:=aa (z.out.trans T);have O:=aa (mJ k a 0 (swp t a (a+k)));clear T;go_wp2;go_roundg (gk-1)
      case rel=>exact⟨k,_,by omega,by omega,rfl,by rw[O.out,size_swp];exact E.out,Z.out,al.out⟩
      case measure=>omega
theorem yg (t cap len a b:Nat)(d:Array Int)(w:World)(N:bE w t cap d)(E:d.size=len)(O:a<b)(U:b≤len)(Y:len≤1048576) :
  Calls Tryz.prog 220 #[.slice (some ⟨t,0,none⟩) len cap,.int .i64 a,.int .i64 b] w fun e D=>
   e=.returned (.tuple #[])∧∃d',PermIn a b d d'∧aL w D t cap d':=by
 go_enter Tryz.func220,Tryz.ntmps220
 go_wp2
 go_loopg [6,7] (b-a) (fun gk D O wr=>∃(i j:Nat) (s:Array Int),j-i≤gk∧a≤i∧j<b∧D=.int .i64 (i:Int)∧O=.int .i64 (j:Int)∧PermIn a b d s∧aL w wr t cap s)
 case atStart=>exact⟨a,b-1,d,by omega,aI _,by omega,rfl,by congr 1;omega,permIn_refl _ _ _,aL.self N⟩
 case round=>
  obtain⟨i,j,s,X,T,V,rfl,rfl,D,hS⟩:=hrel;have O:s.size=len:=D.1.trans E;have u:=aa hS;have I:=aa D;have z:=aa O;have X:=aa E;clear hS D O N E;by_cases D:i<j
  ·obtain⟨g,J⟩:∃g:Nat→Int,∀D,g D=s[D]!:=⟨fun D=>s[D]!,fun _=>rfl⟩;have D:=aa J;clear J;have E:wr.cell? ⟨t,i,none⟩=some (.int .u32 (g i)):=(by rw[D.out];exact u.out.row.cell i (by rw[z.out];omega));have E:wr.cell? ⟨t,j,none⟩=some (.int .u32 (g j)):=(by rw[D.out];exact u.out.row.cell j (by rw[z.out];omega));have E:wr.frozen? ⟨t,i,none⟩=false:=u.out.row.frozen i;have E:wr.frozen? ⟨t,j,none⟩=false:=u.out.row.frozen j;have t:(i:Int)<(len:Int):=(by omega);have t:(j:Int)<(len:Int):=(by omega);have W:(i:Int)<(j:Int):=(by omega);have t:¬j=i:=(by omega);have t:=fun n=>u.out.b8 n i j (by rw[z.out];omega) (by rw[z.out];omega);rw[←D.out,←D.out]at t;have Q:=aa t;clear t;go_wp2_with fail;go_region;all_goals go_wp2
   go_roundg (gk-1)
   case rel=>exact⟨i+1,j-1,swp s i j,by omega,by omega,by omega,by first|rfl|go_num,by congr 1;omega,permIn_trans _ _ _ _ _ I.out (swp_permIn s a b i j T (by omega) (by omega) V (by rw[z.out];exact U)),Q.out 1⟩
   case measure=>omega
  ·have W:¬(i:Int)<(j:Int):=(by omega);go_wp2;first|go_end0|refine an (results_none rfl _ _ _) rfl ?_
   exact⟨rfl,s,I.out,u.out⟩
structure fP (w w':World)(sb:Nat)(n:Int):Prop where
 upd:af (fun k=>k=sb) w w'
 cell:w'.cell? ⟨sb,0,none⟩=some (.int .i64 n)
 free:w'.frozen? ⟨sb,0,none⟩=false
theorem bE.box {w t:World}{s cap sb:Nat}{n:Int}{d:Array Int}(h:bE w s cap d)(u:fP w t sb n)(z:s≠sb):bE t s cap d:=h.keep u.upd z
theorem mw (s cap len a b sb:Nat)(n:Int)(d:Array Int)(w:World)(z:bE w s cap d)(N:d.size=len)(Q:a<len)(T:b<len)(V:len≤1048576)(E:w.cell? ⟨sb,0,none⟩=some (.int .i64 n))(J:w.frozen? ⟨sb,0,none⟩=false)(O:0≤n)(U:n≤1000) :
  Calls Tryz.prog 266 #[.slice (some ⟨s,0,none⟩) len cap,.int .i64 a,.int .i64 b,.pointer (some ⟨sb,0,none⟩)] w fun e t=>
   ∃(x y:Nat) (m:Int),e=.returned (.tuple #[.int .i64 x,.int .i64 y])∧(x=a∨x=b)∧(y=a∨y=b)∧0≤m∧m≤n+1∧fP w t sb m:=by
 obtain⟨g,u⟩:∃g:Nat→Int,∀t,g t=d[t]!:=⟨fun t=>d[t]!,fun _=>rfl⟩
 have t:w.cell? ⟨s,a,none⟩=some (.int .u32 (g a)):=by rw[u];exact z.cell a (by omega)
 have t:w.cell? ⟨s,b,none⟩=some (.int .u32 (g b)):=by rw[u];exact z.cell b (by omega)
 clear u z N
 have s:(a:Int)<(len:Int):=by omega
 have s:(b:Int)<(len:Int):=by omega
 have I:=aa E
 have D:=aa J
 go_enter Tryz.func266,Tryz.ntmps266
 go_wp2_with fail
 go_quiet ((go_at_call 222;exact aU (aV _ _ _)))
 go_wp2
 all_goals refine an (results_tmp2 rfl _ _ _) rfl ?_
 ·exact⟨b,a,n+1,rfl,.inr rfl,.inl rfl,by omega,by omega,((af.refl (fun k=>k=sb) w).drewN _).setCell (p:=⟨sb,0,none⟩) (Or.inl rfl) _,by simp[go_sem,E],by rw[bP];exact D.out⟩
 ·exact⟨a,b,n,rfl,.inl rfl,.inr rfl,O,by omega,(af.refl _ _).drewN _,I.out,D.out⟩
theorem fP.trans {w w1 t:World}{sb:Nat}{n m:Int}(h:fP w w1 sb n)(s:fP w1 t sb m):fP w t sb m:=⟨h.upd.bd s.upd,s.cell,s.free⟩
theorem mm (s cap len a b c sb:Nat)(n:Int)(d:Array Int)(w:World)(Q:bE w s cap d)(I:d.size=len)(X:a<len)(Y:b<len)(Z:c<len)(E:len≤1048576)(O:s≠sb)(J:w.cell? ⟨sb,0,none⟩=some (.int .i64 n))(N:w.frozen? ⟨sb,0,none⟩=false)(al:0≤n)(a4:n≤900) :
  Calls Tryz.prog 255 #[.slice (some ⟨s,0,none⟩) len cap,.int .i64 a,.int .i64 b,.int .i64 c,.pointer (some ⟨sb,0,none⟩)] w fun e a1=>
   ∃(x:Nat) (m:Int),e=.returned (.int .i64 x)∧(x=a∨x=b∨x=c)∧0≤m∧m≤n+3∧fP w a1 sb m:=by
 have D:=aa Q
 have z:=aa I
 clear Q I
 go_enter Tryz.func255,Tryz.ntmps255
 go_wp2_with fail
 refine(mw s cap len a b sb n d w D.out z.out X Y E J N al (by omega)).mono ?_
 rintro e w1 ⟨T,V,ax,rfl,X,Y,ab,Q,I⟩
 have am:T<len:=by omega
 have aw:V<len:=by omega
 have t:=aa I
 clear I J N
 go_wp2_with fail
 refine(mw s cap len V c sb ax d w1 (D.out.box t.out O) z.out aw Z E t.out.cell t.out.free ab (by omega)).mono ?_
 rintro e a2 ⟨U,a6,ay,rfl,N,Q,ad,J,I⟩
 have av:U<len:=by omega
 have u:=aa (t.out.trans I)
 clear I
 go_wp2_with fail
 refine(mw s cap len T U sb ay d a2 (D.out.box u.out O) z.out am av E u.out.cell u.out.free ad (by omega)).mono ?_
 rintro e s ⟨a5,a3,a0,rfl,z,D,ah,t,s⟩
 have W:=aa (u.out.trans s)
 clear s
 go_wp2
 go_ret
 exact⟨a3,a0,rfl,by omega,ah,by omega,W.out⟩
theorem lp (s cap len a sb:Nat)(n:Int)(d:Array Int)(w:World)(D:bE w s cap d)(z:d.size=len)(Y:1≤a)(J:a+1<len)(U:len≤1048576)(T:s≠sb)(t:w.cell? ⟨sb,0,none⟩=some (.int .i64 n))(u:w.frozen? ⟨sb,0,none⟩=false)(O:0≤n)(Q:n≤900) :
  Calls Tryz.prog 254 #[.slice (some ⟨s,0,none⟩) len cap,.int .i64 a,.pointer (some ⟨sb,0,none⟩)] w fun e W=>
   ∃(x:Nat) (m:Int),e=.returned (.int .i64 x)∧(a≤x+1∧x≤a+1)∧0≤m∧m≤n+3∧fP w W sb m:=by
 have hm:=mm s cap len (a-1) a (a+1) sb n d w D z (by omega) (by omega) J U T t u O Q
 rw[show((a-1:Nat):Int)=(a:Int)-1 by omega,show((a+1:Nat):Int)=(a:Int)+1 by omega]at hm
 have I:=aa hm
 clear hm D z t u
 go_enter Tryz.func254,Tryz.ntmps254
 go_wp2_with fail
 refine I.out.mono ?_
 rintro e w1 ⟨X,V,rfl,u,N,t,s⟩
 have E:=aa s
 clear s
 go_wp2
 go_ret
 exact⟨X,V,rfl,by omega,N,by omega,E.out⟩
theorem fP.U {w s:World}{o:Obj}{m:Int}(h:fP (w.alloc o) s w.heap.size m):ae w s:=by
 have t:af (fun k=>k=w.heap.size) w s:=((af.refl _ w).alloc o).bd h.upd;exact t.U (fun k s=>by omega)
theorem sr (t cap len a b:Nat)(d:Array Int)(w:World)(z:bE w t cap d)(ad:d.size=len)(bn:a+13≤b)(bt:b≤len)(V:len≤1048576) :
  Calls Tryz.prog 219 #[.slice (some ⟨t,0,none⟩) len cap,.int .i64 a,.int .i64 b] w fun e ba=>
   ∃(p:Nat) (h:Int),e=.returned (.tuple #[.int .i64 p,.int .i64 h])∧a≤p∧p<b∧(h=0∨h=1∨h=2)∧ae w ba:=by
 have s:t≠w.heap.size:=by have:=z.lt;omega
 obtain⟨q,ah⟩:∃q:Nat,q=(b-a) / 4:=⟨_,rfl⟩
 have ba:3≤q:=by omega
 have ba:4*q≤b-a:=by omega
 have ba:((b:Int)-(a:Int)) / 4=(q:Int):=by omega
 have ba:=aa ah
 have ay:=aa z
 have J:=aa ad
 clear ah z ad
 have z:(8:Int)≤(b:Int)-(a:Int):=by omega
 have X:(w.alloc (.cells #[.int .i64 0] 3)).cell? ⟨w.heap.size,0,none⟩=some (.int .i64 0):=by simp[go_sem]
 have ab:(w.alloc (.cells #[.int .i64 0] 3)).frozen? ⟨w.heap.size,0,none⟩=false:=by simp[go_sem]
 have N:Hid (bE (w.alloc (.cells #[.int .i64 0] 3)) t cap d):=aa (ay.out.keep (G:=fun _=>False) ((af.refl _ w).alloc _) (fun h=>h))
 have Y:=aa X
 have Z:=aa ab
 clear X ab
 by_cases z:(50:Int)≤(b:Int)-(a:Int)
 ·have O:((a+q:Nat):Int)=(a:Int)+(q:Int):=by omega
  have Q:((a+q*2:Nat):Int)=(a:Int)+(q:Int)*2:=by omega
  have T:((a+q*3:Nat):Int)=(a:Int)+(q:Int)*3:=by omega
  have z:=lp t cap len (a+q) w.heap.size 0 d _ N.out J.out (by omega) (by omega) V s Y.out Z.out (by omega) (by omega);rw[O]at z;have a0:=aa z;have al:=aa Q;have am:=aa T;clear z O Q T;go_enter Tryz.func219,Tryz.ntmps219;go_wp2_with fail;refine a0.out.mono ?_;rintro e w1 ⟨be,a7,rfl,ad,ab,X,z⟩;have X:=lp t cap len (a+q*2) w.heap.size a7 d w1 (N.out.box z s) J.out (by omega) (by omega) V s z.cell z.free ab (by omega);rw[al.out]at X;have a1:=aa X;have av:=aa z;clear X z;go_wp2_with fail;refine a1.out.mono ?_;rintro e bb ⟨bh,a8,rfl,ad,ab,X,z⟩;have z:=av.out.trans z;have X:=lp t cap len (a+q*3) w.heap.size a8 d bb (N.out.box z s) J.out (by omega) (by omega) V s z.cell z.free ab (by omega);rw[am.out]at X;have a2:=aa X;have aw:=aa z;clear X z;go_wp2_with fail;refine a2.out.mono ?_;rintro e bc ⟨bi,a9,rfl,ad,X,ab,z⟩;have z:=aw.out.trans z;have I:=mm t cap len be bh bi w.heap.size a9 d bc (N.out.box z s) J.out (by omega) (by omega) (by omega) V s z.cell z.free X (by omega);have W:=aa I;have ax:=aa z;clear I z;go_wp2_with fail;refine W.out.mono ?_;rintro e bd ⟨x,a',rfl,a6,a4,a5,U⟩;have u:=aa (ax.out.trans U);clear U;have D:x<b:=by omega
  have E:a≤x:=by omega
  have a3:=u.out.cell;clear s;go_wp2;all_goals refine an (results_tmp2 rfl _ _ _) rfl ?_
  ·exact⟨x,1,rfl,E,D,by omega,u.out.U⟩
  ·exact⟨x,2,rfl,E,D,by omega,u.out.U⟩
  ·exact⟨x,0,rfl,E,D,by omega,u.out.U⟩
 ·have O:((a+q:Nat):Int)=(a:Int)+(q:Int):=by omega
  have Q:((a+q*2:Nat):Int)=(a:Int)+(q:Int)*2:=by omega
  have T:((a+q*3:Nat):Int)=(a:Int)+(q:Int)*3:=by omega
  have I:=mm t cap len (a+q) (a+q*2) (a+q*3) w.heap.size 0 d _ N.out J.out (by omega) (by omega) (by omega) V s Y.out Z.out (by omega) (by omega);rw[O,Q,T]at I;have W:=aa I;clear I O Q T;go_enter Tryz.func219,Tryz.ntmps219;go_wp2_with fail;refine W.out.mono ?_;rintro e bd ⟨x,a',rfl,a6,a4,a5,U⟩;have u:=aa U;clear U;have D:x<b:=by omega
  have E:a≤x:=by omega
  have a3:=u.out.cell;clear s;go_wp2;all_goals refine an (results_tmp2 rfl _ _ _) rfl ?_
  ·exact⟨x,1,rfl,E,D,by omega,u.out.U⟩
  ·exact⟨x,0,rfl,E,D,by omega,u.out.U⟩
end Go.Proofs.YtafkamlhimkbmaaGreat
