/-
  The document's store (ramageref11): how it lies in memory; At, Has.
-/
import Derived.Test.YtafkamlhimkbmaaGreatPSFindA
import Derived.RegionTactic
import Derived.BigRegion
import Derived.IntWalk
namespace Go.Proofs.YtafkamlhimkbmaaGreat
set_option maxRecDepth 1000000
set_option maxHeartbeats 8000000
set_option linter.unusedSimpArgs false
set_option linter.unusedVariables false
open Go.RowKit
def fo (p:Int×Rec):List Value:=.int .u32 p.1::df p.2
theorem oY (p:Int×Rec):(fo p).length=8:=rfl
theorem Bt (mb:Nat)(a:Option Addr)(len cap D:Nat)(id:Int)(ids:Nat→Int)(w:World)(L:w.cell? ⟨mb,0,none⟩=some (.slice a len cap))(S:len≤1048576)
  (A:∀i,i<len→∃lb,a=some ⟨lb,0,none⟩∧w.cell? ⟨lb,i*8,none⟩=some (.int .u32 (ids i)))
  (N:D≤len) (t:∀d,d<D→ids d≠id) (z:D<len→ids D=id) :
  Calls Tryz.prog 88 #[.pointer (some ⟨mb,0,none⟩),.int .u32 id] w fun e w'=>e=.returned (.int .i64 (if D<len then(D:Int)else -1))∧w=w':=by
 have q:=aa A
 have B:=aa t
 have E:=aa z
 clear A t z
 go_enter Tryz.func88,Tryz.ntmps88
 go_wp2
 go_loopg [5] D (fun gk i wr=>∃d:Nat,d+gk=D∧i=.int .i64 (d:Int)∧w=wr)
 case atStart=>exact⟨0,by omega,rfl,rfl⟩
 case round=>
  obtain⟨d,O,rfl,rfl⟩:=hrel;by_cases J:gk=0
  ·subst J;have I:d=D:=(by omega);subst I;by_cases j:d<len
   ·obtain⟨lb,rfl,s⟩:=q.out d j;rw[E.out j]at s;go_wp2;go_ret;exact⟨by simp[j],rfl⟩
   ·go_wp2;go_ret;exact⟨by simp[j],rfl⟩
  ·have j:d<len:=(by omega);obtain⟨lb,rfl,s⟩:=q.out d j;have j:=B.out d (by omega);go_wp2;go_roundg (gk-1)
   case rel=>exact⟨d+1,by omega,by simp,rfl⟩
   case measure=>omega
theorem Bw (mb:Nat)(a:Option Addr)(len cap D:Nat)(r:Rec)(ids:Nat→Int)(rs:Nat→Rec)(w:World)(E:w.cell? ⟨mb,0,none⟩=some (.slice a len cap))(a7:len≤1048576)
  (N:∀i,i<len→∃lb,a=some ⟨lb,0,none⟩∧∀s,s<8→w.cell? ⟨lb,i*8+s,none⟩=(fo (ids i,rs i))[s]?)
  (a5:D≤len) (J:∀d,d<D→rs d≠r) (L:D<len→rs D=r) :
  Calls Tryz.prog 139 #[.pointer (some ⟨mb,0,none⟩),.agg #[.int .u8 r.al,.int .u8 r.I,.int .u8 r.J,.int .u8 r.lo.tag,.int .u32 r.lo.to,.int .u8 r.hi.tag,.int .u32 r.hi.to]] w fun e w'=>e=.returned (.int .u32 (if D<len then ids D else 0))∧ae w w':=by
 have Y:mb<w.heap.size:=aB E
 have U:=aa N
 have O:=aa J
 have T:=aa L
 clear N J L
 go_enter Tryz.func139,Tryz.ntmps139
 go_wp2
 have B:(w.alloc (.cells #[.int .u8 r.al,.int .u8 r.I,.int .u8 r.J,.int .u8 r.lo.tag,.int .u32 r.lo.to,.int .u8 r.hi.tag,.int .u32 r.hi.to] 134)).cell? ⟨mb,0,none⟩=some (.slice a len cap):=by simp[go_sem,Y,E]
 have S:=aa B
 clear B
 go_loopg [5] D (fun gk i wr=>∃d:Nat,d+gk=D∧i=.int .i64 (d:Int)∧ae (w.alloc (.cells #[.int .u8 r.al,.int .u8 r.I,.int .u8 r.J,.int .u8 r.lo.tag,.int .u32 r.lo.to,.int .u8 r.hi.tag,.int .u32 r.hi.to] 134)) wr)
 case atStart=>exact⟨0,by omega,rfl,ae.refl _⟩
 case round=>
  obtain⟨d,a6,rfl,A⟩:=hrel;obtain⟨E,J,L,N,Y,a5,a6⟩:=dL A;have B:=A.cell S.out;have ad:ae w wr:=((ae.refl w).alloc _).trans A;by_cases t:d<len
  ·obtain⟨lb,rfl,I⟩:=U.out d t;have j:=fun s A=>ad.cell ((I s A).trans (ar (by rw[oY];exact A)));have al:=j 0 (by omega);have am:=j 1 (by omega);have av:=j 2 (by omega);have aw:=j 3 (by omega);have a0:=j 4 (by omega);have a1:=j 5 (by omega);have a3:=j 6 (by omega);have a4:=j 7 (by omega);simp[fo,df]at al am av aw a0 a1 a3 a4;clear j I;by_cases X:gk=0
   ·subst X;have z:d=D:=(by omega);subst z;have W:=T.out t;have ab:∀q,(binOp .eql 134 (.agg #[.int .u8 (rs d).al,.int .u8 (rs d).I,.int .u8 (rs d).J,.int .u8 (rs d).lo.tag,.int .u32 (rs d).lo.to,.int .u8 (rs d).hi.tag,.int .u32 (rs d).hi.to]) (.agg #[.int .u8 r.al,.int .u8 r.I,.int .u8 r.J,.int .u8 r.lo.tag,.int .u32 r.lo.to,.int .u8 r.hi.tag,.int .u32 r.hi.to])).run Tryz.prog q=.ok (.bool true) q:=fun q=>(by rw[tk];simp[W]);go_wp2_with fail;go_quiet (fail);go_wp2;go_ret;exact⟨by simp[t],kp⟩
   ·have Z:=O.out d (by omega);have ab:∀q,(binOp .eql 134 (.agg #[.int .u8 (rs d).al,.int .u8 (rs d).I,.int .u8 (rs d).J,.int .u8 (rs d).lo.tag,.int .u32 (rs d).lo.to,.int .u8 (rs d).hi.tag,.int .u32 (rs d).hi.to]) (.agg #[.int .u8 r.al,.int .u8 r.I,.int .u8 r.J,.int .u8 r.lo.tag,.int .u32 r.lo.to,.int .u8 r.hi.tag,.int .u32 r.hi.to])).run Tryz.prog q=.ok (.bool false) q:=fun q=>(by rw[tk];simp[Z]);go_wp2_with fail;go_quiet (fail);go_wp2;go_roundg (gk-1)
    case rel=>exact⟨d+1,by omega,by simp,kp⟩
    case measure=>omega
  ·have z:d=D:=(by omega);subst z;go_wp2;go_ret;exact⟨by simp[t],kp⟩
theorem lH (f j a l n:Int)(w:World)(q:0≤j)(s:j≤255) :
  Calls Tryz.prog 204 #[.int .u8 f,.agg #[.int .u8 j,.int .u32 a],.int .i64 l,.int .i64 n] w fun r w'=>r=.returned (.bool (dE f ⟨j,a⟩ l n))∧ae w w':=by
 go_enter Tryz.func204,Tryz.ntmps204
 go_wp2
 all_goals(go_ret;refine⟨?_,(ae.refl _).alloc _⟩)
 all_goals simp_all [dE,aR,fQ]
 all_goals(try omega)
theorem BM (f j b lt t s q n:Int)(T:1≤f)(U:f≤5)(W:0≤n)(X:n≤16)(ab:j≤b)(ad:b<n)(al:0≤q) :
  fT ⟨f,j,b,⟨lt,t⟩,⟨s,q⟩⟩ n=if j<b∧f≠3∧f≠4 then false else if dE f ⟨lt,t⟩ (b+1) n=true∧dE f ⟨s,q⟩ (b+1) n=true then(if f=2∨f=4 then decide (0<q)else decide (t≠q∨lt≠s))else false:=by
 have I:aR f=true:=by simp[aR,T,U]
 have J:fQ n=true:=by simp[fQ,W,X]
 have L:decide (b<j)=false:=aY (by omega)
 have N:decide (n≤b)=false:=aY (by omega)
 have O:(j != b&&!fN f)=decide (j<b∧f≠3∧f≠4):=by
  by_cases E:j=b
  ·have:¬j<b:=(by omega);simp[E]
  ·have:j<b:=(by omega);by_cases Y:f=3<;>by_cases Z:f=4<;>simp[fN,E,Y,Z,this]
 unfold fT
 dsimp only
 rw[I,J,L,N,O]
 by_cases z:j<b∧f≠3∧f≠4
 ·rw[ah z,ah (by simp[z])]
 ·rw[ag z,ag (by simp;intro x y;exact Classical.byContradiction fun j=>z ⟨x,y,j⟩)];cases dE f ⟨lt,t⟩ (b+1) n<;>cases dE f ⟨s,q⟩ (b+1) n<;>simp
  by_cases A:f=2∨f=4
  ·rw[ah A];have S:(f=2∨f=4)=True:=eq_true A;simp only[S,if_true];by_cases B:q=0;·subst B;rfl
   ·have:0<q:=(by omega);simp[B,this]
  ·by_cases x:lt=s<;>by_cases y:t=q<;>simp[A,x,y]
theorem Bx (r:Rec)(T:r.ok)(n:Int)(w:World) :
  Calls Tryz.prog 140 #[.agg #[.int .u8 r.al,.int .u8 r.I,.int .u8 r.J,.int .u8 r.lo.tag,.int .u32 r.lo.to,.int .u8 r.hi.tag,.int .u32 r.hi.to],.int .i64 n] w fun e w'=>e=.returned (.bool (fT r n))∧ae w w':=by
 obtain⟨f,j,b,⟨lt,B⟩,⟨s,t⟩⟩:=r
 obtain⟨⟨ab,ad⟩,⟨a4,a5⟩,⟨Y,Z⟩,⟨⟨a1,a3⟩,aw,a0⟩,⟨am,av⟩,S,al⟩:=T
 dsimp only at *
 by_cases q:(f<1∨5<f)∨(n<0∨16<n)∨b<j∨n≤b
 ·have W:fT ⟨f,j,b,⟨lt,B⟩,⟨s,t⟩⟩ n=false:=by
   unfold fT;rw[ah];simp only[aR,fQ,dS,Bool.not_eq_true',Bool.and_eq_false_iff,bC,decide_eq_false_iff_not];omega
  rw[W];have H:=aa q;clear q;go_enter Tryz.func140,Tryz.ntmps140;go_wp2_with fail;all_goals first|(go_ret;exact⟨rfl,kp⟩)|(exfalso;have:=H.out;omega)
 ·have E:1≤f:=by omega
  have I:f≤5:=by omega
  have J:0≤n:=by omega
  have L:n≤16:=by omega
  have N:j≤b:=by omega
  have O:b<n:=by omega
  clear q;go_enter Tryz.func140,Tryz.ntmps140;go_wp2_with (first|(go_at_call 204;refine(lH _ _ _ _ _ _ (by omega) (by omega)).mono ?_;rintro e w1 ⟨rfl,z⟩;have A:ae w w1:=kp;obtain⟨q,T⟩:=z.cells;obtain⟨q,T⟩:=A.cells;have U:=z.size;(try simp only[ai,World.cx,World.a5,au]at U);have q:=A.size;have q:w.heap.size<w1.heap.size:=(by omega))|fail)
  all_goals(go_ret;refine⟨?_,kp⟩)
  all_goals(congr 2;rw[BM f j b lt B s t n E I J L N O S])
  all_goals simp_all
  all_goals first|rfl|omega|(by_cases X:lt=s<;>by_cases y:j<b<;>simp[X,y]<;>omega)
theorem sW (mb:Nat)(f t s l n:Int)(aw:Option Addr)(len cap D:Nat)(x:Rec)(w:World)(a':0≤t)(bb:t≤255)(a7:x.ok)(a8:len≤1048576)
  (L:w.cell? ⟨mb,3,none⟩=some (.int .i64 n)) (J:w.cell? ⟨mb,0,none⟩=some (.slice aw len cap))
  (a1:∀A,ae w A→Calls Tryz.prog 88 #[.pointer (some ⟨mb,0,none⟩),.int .u32 s] A fun e w'=>e=.returned (.int .i64 (if D<len then(D:Int)else -1))∧A=w')
  (a4:D<len→∃lb,aw=some ⟨lb,0,none⟩∧∀I,I<7→w.cell? ⟨lb,D*8+(1+I),none⟩=(df x)[I]?) :
  Calls Tryz.prog 141 #[.pointer (some ⟨mb,0,none⟩),.int .u8 f,.agg #[.int .u8 t,.int .u32 s],.int .i64 l] w fun e w'=>
   e=.returned (.bool (dE f ⟨t,s⟩ l n&&(decide (s<2)||(decide (D<len)&&x.al==f&&decide (l≤x.I)&&decide (t≤x.I)))))∧ae w w':=by
 have aw:mb<w.heap.size:=aB J
 obtain⟨aw,⟨bd,be⟩,a8,a',bb⟩:=a7
 have H:=aa a1
 have a6:=aa a4
 clear a1 a4 aw a8 a' bb
 cases aw:dE f ⟨t,s⟩ l n with
 |false=>
  go_enter Tryz.func141,Tryz.ntmps141;go_wp2_with fail;go_region_held3 (fun w'=>w'.cell? ⟨mb,3,none⟩=some (.int .i64 n)∧w'.cell? ⟨w.heap.size,0,none⟩=some (.int .u8 t)∧w'.cell? ⟨w.heap.size,1,none⟩=some (.int .u32 s)) (go_keep) ((first|(go_at_call 204;refine(lH _ _ _ _ _ _ (by omega) (by omega)).mono ?_;rintro E w1 ⟨rfl,O⟩;have q:ae (w.alloc (.cells #[.int .u8 t,.int .u32 s] 52)) w1:=kp;have al:w1.cell? ⟨w.heap.size,0,none⟩=some (.int .u8 t):=q.cell (by simp);have am:w1.cell? ⟨w.heap.size,1,none⟩=some (.int .u32 s):=q.cell (by simp);have j:ae w w1:=(((ae.refl _).alloc _).trans q);have B:=q.size;simp only[ai]at B;have U:=j.cell L;have T:=j.cell J)))
  all_goals(go_wp2;go_ret;exact⟨rfl,kp⟩)
 |true=>
  by_cases a0:s<2
  ·obtain⟨a1,aw⟩:∃a1:Int,∀A,ae w A→Calls Tryz.prog 88 #[.pointer (some ⟨mb,0,none⟩),.int .u32 s] A fun e w'=>e=.returned (.int .i64 a1)∧A=w':=⟨_,H.out⟩;clear H;have H:=aa aw;clear aw;go_enter Tryz.func141,Tryz.ntmps141;go_wp2_with fail;go_region_held3 (fun w'=>w'.cell? ⟨mb,3,none⟩=some (.int .i64 n)∧w'.cell? ⟨w.heap.size,0,none⟩=some (.int .u8 t)∧w'.cell? ⟨w.heap.size,1,none⟩=some (.int .u32 s)) (go_keep) ((first|(go_at_call 204;refine(lH _ _ _ _ _ _ (by omega) (by omega)).mono ?_;rintro E w1 ⟨rfl,O⟩;have q:ae (w.alloc (.cells #[.int .u8 t,.int .u32 s] 52)) w1:=kp;have al:w1.cell? ⟨w.heap.size,0,none⟩=some (.int .u8 t):=q.cell (by simp);have am:w1.cell? ⟨w.heap.size,1,none⟩=some (.int .u32 s):=q.cell (by simp);have j:ae w w1:=(((ae.refl _).alloc _).trans q);have B:=q.size;simp only[ai]at B;have U:=j.cell L;have T:=j.cell J)))
   all_goals(go_wp2_with (first|(go_at_call 88;refine(H.out _ kp).mono ?_;rintro E a5 ⟨rfl,rfl⟩)|fail);go_ret;exact⟨by simp[a0],kp⟩)
  ·by_cases N:D<len
   ·obtain⟨lb,rfl,a3⟩:=a6.out N;have z:=fun I A=>(a3 I A).trans (ar (show I<(df x).length from A));have S:=z 0 (by omega);have W:=z 1 (by omega);have X:=z 2 (by omega);have Y:=z 3 (by omega);have Z:=z 4 (by omega);have ab:=z 5 (by omega);have ad:=z 6 (by omega);simp[df]at S W X Y Z ab ad;clear z a3;have z:lb<w.heap.size:=aB S;simp only[ah N]at H;go_enter Tryz.func141,Tryz.ntmps141;go_wp2_with fail;go_region_held3 (fun w'=>w'.cell? ⟨mb,3,none⟩=some (.int .i64 n)∧w'.cell? ⟨w.heap.size,0,none⟩=some (.int .u8 t)∧w'.cell? ⟨w.heap.size,1,none⟩=some (.int .u32 s)) (go_keep) ((first|(go_at_call 204;refine(lH _ _ _ _ _ _ (by omega) (by omega)).mono ?_;rintro E w1 ⟨rfl,O⟩;have q:ae (w.alloc (.cells #[.int .u8 t,.int .u32 s] 52)) w1:=kp;have al:w1.cell? ⟨w.heap.size,0,none⟩=some (.int .u8 t):=q.cell (by simp);have am:w1.cell? ⟨w.heap.size,1,none⟩=some (.int .u32 s):=q.cell (by simp);have j:ae w w1:=(((ae.refl _).alloc _).trans q);have B:=q.size;simp only[ai]at B;have U:=j.cell L;have T:=j.cell J)))
    have z:=j.cell S;have z:=j.cell W;have z:=j.cell X;have z:=j.cell Y;have z:=j.cell Z;have z:=j.cell ab;have z:=j.cell ad;have z:mb<w1.heap.size:=(by omega);have z:lb<w1.heap.size:=(by omega);have z:w.heap.size<w1.heap.size:=(by omega);have av:=aa j;clear O q S W X Y Z ab ad j;go_wp2_with (first|(go_at_call 88;refine(H.out _ (by have:=av.out;(exact kp))).mono ?_;rintro E a5 ⟨rfl,rfl⟩)|fail)
    all_goals(go_ret;have z:=av.out;refine⟨?_,kp⟩)
    all_goals simp_all
    all_goals(try omega)
   ·simp only[ag N]at H;go_enter Tryz.func141,Tryz.ntmps141;go_wp2_with fail;go_region_held3 (fun w'=>w'.cell? ⟨mb,3,none⟩=some (.int .i64 n)∧w'.cell? ⟨w.heap.size,0,none⟩=some (.int .u8 t)∧w'.cell? ⟨w.heap.size,1,none⟩=some (.int .u32 s)) (go_keep) ((first|(go_at_call 204;refine(lH _ _ _ _ _ _ (by omega) (by omega)).mono ?_;rintro E w1 ⟨rfl,O⟩;have q:ae (w.alloc (.cells #[.int .u8 t,.int .u32 s] 52)) w1:=kp;have al:w1.cell? ⟨w.heap.size,0,none⟩=some (.int .u8 t):=q.cell (by simp);have am:w1.cell? ⟨w.heap.size,1,none⟩=some (.int .u32 s):=q.cell (by simp);have j:ae w w1:=(((ae.refl _).alloc _).trans q);have B:=q.size;simp only[ai]at B;have U:=j.cell L;have T:=j.cell J)))
    all_goals(go_wp2_with (first|(go_at_call 88;refine(H.out _ kp).mono ?_;rintro E a5 ⟨rfl,rfl⟩)|fail);go_ret;exact⟨by simp[a0,N],kp⟩)
theorem rz:(Tryz.prog.info? 164).map (fun i=>(i.zero,i.size,i.bytes))=some (some (.agg #[.int .u32 0,.int .u8 0,.int .u8 0,.int .u8 0,.int .u8 0,.int .u32 0,.int .u8 0,.int .u32 0]),8,24):=by kernel_rfl
theorem BF (mb:Nat)(r:Rec)(id n:Int)(w:World)(hid:0<id)
  (s:w.cell? ⟨mb,3,none⟩=some (.int .i64 n))
  (t:∀j,ae w j→Calls Tryz.prog 139 #[.pointer (some ⟨mb,0,none⟩),.agg #[.int .u8 r.al,.int .u8 r.I,.int .u8 r.J,.int .u8 r.lo.tag,.int .u32 r.lo.to,.int .u8 r.hi.tag,.int .u32 r.hi.to]] j fun e w'=>e=.returned (.int .u32 id)∧ae j w') :
  Calls Tryz.prog 81 #[.pointer (some ⟨mb,0,none⟩),.agg #[.int .u8 r.al,.int .u8 r.I,.int .u8 r.J,.int .u8 r.lo.tag,.int .u32 r.lo.to,.int .u8 r.hi.tag,.int .u32 r.hi.to]] w fun e w'=>e=.returned (.tuple #[.int .u32 id,.int .i64 0])∧ae w w':=by
 have j:mb<w.heap.size:=aB s
 have z:=aa t
 clear t
 go_enter Tryz.func81,Tryz.ntmps81
 go_wp2_with (first|(go_at_call 139;refine(z.out _ kp).mono ?_;rintro e w1 ⟨rfl,j⟩;have q:ae (w.alloc (.cells #[.int .u8 r.al,.int .u8 r.I,.int .u8 r.J,.int .u8 r.lo.tag,.int .u32 r.lo.to,.int .u8 r.hi.tag,.int .u32 r.hi.to] 134)) w1:=kp;obtain⟨j,t,z,E,I,J,L⟩:=dL q;have A:ae w w1:=(((ae.refl _).alloc _).trans q);have B:=q.size;simp only[ai]at B;have j:=A.cell s)|fail)
 go_ret2
 exact⟨rfl,kp⟩
theorem Bz (mb:Nat)(r:Rec)(W:0≤r.J)(X:r.J≤255)(n:Int)(w:World)
  (s:w.cell? ⟨mb,3,none⟩=some (.int .i64 n))
  (t:∀j,ae w j→Calls Tryz.prog 139 #[.pointer (some ⟨mb,0,none⟩),.agg #[.int .u8 r.al,.int .u8 r.I,.int .u8 r.J,.int .u8 r.lo.tag,.int .u32 r.lo.to,.int .u8 r.hi.tag,.int .u32 r.hi.to]] j fun e w'=>e=.returned (.int .u32 0)∧ae j w')
  (z:∀j,Calls Tryz.prog 140 #[.agg #[.int .u8 r.al,.int .u8 r.I,.int .u8 r.J,.int .u8 r.lo.tag,.int .u32 r.lo.to,.int .u8 r.hi.tag,.int .u32 r.hi.to],.int .i64 n] j fun e w'=>e=.returned (.bool false)∧ae j w')
  : Calls Tryz.prog 81 #[.pointer (some ⟨mb,0,none⟩),.agg #[.int .u8 r.al,.int .u8 r.I,.int .u8 r.J,.int .u8 r.lo.tag,.int .u32 r.lo.to,.int .u8 r.hi.tag,.int .u32 r.hi.to]] w fun e w'=>e=.returned (.tuple #[.int .u32 0,.int .i64 1])∧ae w w':=by
 have j:mb<w.heap.size:=aB s
 have A:=aa t
 have B:=aa z
 clear t z
 go_enter Tryz.func81,Tryz.ntmps81
 go_wp2_with (first|(go_at_call 139;refine(A.out _ kp).mono ?_;rintro e w1 ⟨rfl,j⟩;have q:ae (w.alloc (.cells #[.int .u8 r.al,.int .u8 r.I,.int .u8 r.J,.int .u8 r.lo.tag,.int .u32 r.lo.to,.int .u8 r.hi.tag,.int .u32 r.hi.to] 134)) w1:=kp;obtain⟨J,L,N,O,S,T,U⟩:=dL q;have E:ae w w1:=(((ae.refl _).alloc _).trans q);have I:=q.size;simp only[ai]at I;have j:=E.cell s)|fail)
 have q:=an.cell j
 have j:=an.cell J
 have j:=an.cell L
 have j:=an.cell N
 have j:=an.cell O
 have j:=an.cell S
 have j:=an.cell T
 have j:=an.cell U
 refine cU (w1) (by kernel_rfl) (by kernel_rfl) kp ?_;(repeat (go_big_quiet_step ((first|(go_at_call 140;refine Calls.b1 (B.out _))))));refine wpQuiet_nil ?_;rintro j ⟨⟨_,Y⟩,rfl⟩;try dsimp only
 go_wp2
 go_ret2
 exact⟨rfl,kp⟩
theorem BA (mb:Nat)(r:Rec)(Y:0≤r.J)(Z:r.J≤255)(n:Int)(w:World)
  (s:w.cell? ⟨mb,3,none⟩=some (.int .i64 n))
  (t:∀j,ae w j→Calls Tryz.prog 139 #[.pointer (some ⟨mb,0,none⟩),.agg #[.int .u8 r.al,.int .u8 r.I,.int .u8 r.J,.int .u8 r.lo.tag,.int .u32 r.lo.to,.int .u8 r.hi.tag,.int .u32 r.hi.to]] j fun e w'=>e=.returned (.int .u32 0)∧ae j w')
  (B:∀j,Calls Tryz.prog 140 #[.agg #[.int .u8 r.al,.int .u8 r.I,.int .u8 r.J,.int .u8 r.lo.tag,.int .u32 r.lo.to,.int .u8 r.hi.tag,.int .u32 r.hi.to],.int .i64 n] j fun e w'=>e=.returned (.bool true)∧ae j w')
  (A:∀j,ae w j→Calls Tryz.prog 141 #[.pointer (some ⟨mb,0,none⟩),.int .u8 r.al,.agg #[.int .u8 r.lo.tag,.int .u32 r.lo.to],.int .i64 (r.J+1)] j fun e w'=>e=.returned (.bool false)∧ae j w')
  : Calls Tryz.prog 81 #[.pointer (some ⟨mb,0,none⟩),.agg #[.int .u8 r.al,.int .u8 r.I,.int .u8 r.J,.int .u8 r.lo.tag,.int .u32 r.lo.to,.int .u8 r.hi.tag,.int .u32 r.hi.to]] w fun e w'=>e=.returned (.tuple #[.int .u32 0,.int .i64 1])∧ae w w':=by
 have j:mb<w.heap.size:=aB s
 have E:=aa t
 have J:=aa B
 have I:=aa A
 clear t B A
 go_enter Tryz.func81,Tryz.ntmps81
 go_wp2_with (first|(go_at_call 139;refine(E.out _ kp).mono ?_;rintro e w1 ⟨rfl,j⟩;have q:ae (w.alloc (.cells #[.int .u8 r.al,.int .u8 r.I,.int .u8 r.J,.int .u8 r.lo.tag,.int .u32 r.lo.to,.int .u8 r.hi.tag,.int .u32 r.hi.to] 134)) w1:=kp;obtain⟨N,O,S,T,U,W,X⟩:=dL q;have z:ae w w1:=(((ae.refl _).alloc _).trans q);have L:=q.size;simp only[ai]at L;have j:=z.cell s)|fail)
 have q:=an.cell j
 have j:=an.cell N
 have j:=an.cell O
 have j:=an.cell S
 have j:=an.cell T
 have j:=an.cell U
 have j:=an.cell W
 have j:=an.cell X
 refine cU (w1) (by kernel_rfl) (by kernel_rfl) kp ?_;(repeat (go_big_quiet_step ((first|(go_at_call 140;refine Calls.b1 (J.out _))|(go_at_call 141;with_reducible refine Calls.b1 (I.out _ (z.trans (an.a4 _))))))));refine wpQuiet_nil ?_;rintro j ⟨⟨_,ab⟩,rfl⟩;try dsimp only
 go_wp2
 go_ret2
 exact⟨rfl,kp⟩
theorem BB (mb:Nat)(r:Rec)(ab:0≤r.J)(ad:r.J≤255)(n:Int)(w:World)
  (t:w.cell? ⟨mb,3,none⟩=some (.int .i64 n))
  (z:∀j,ae w j→Calls Tryz.prog 139 #[.pointer (some ⟨mb,0,none⟩),.agg #[.int .u8 r.al,.int .u8 r.I,.int .u8 r.J,.int .u8 r.lo.tag,.int .u32 r.lo.to,.int .u8 r.hi.tag,.int .u32 r.hi.to]] j fun e w'=>e=.returned (.int .u32 0)∧ae j w')
  (E:∀j,Calls Tryz.prog 140 #[.agg #[.int .u8 r.al,.int .u8 r.I,.int .u8 r.J,.int .u8 r.lo.tag,.int .u32 r.lo.to,.int .u8 r.hi.tag,.int .u32 r.hi.to],.int .i64 n] j fun e w'=>e=.returned (.bool true)∧ae j w')
  (B:∀j,ae w j→Calls Tryz.prog 141 #[.pointer (some ⟨mb,0,none⟩),.int .u8 r.al,.agg #[.int .u8 r.lo.tag,.int .u32 r.lo.to],.int .i64 (r.J+1)] j fun e w'=>e=.returned (.bool true)∧ae j w')
  (A:∀j,ae w j→Calls Tryz.prog 141 #[.pointer (some ⟨mb,0,none⟩),.int .u8 r.al,.agg #[.int .u8 r.hi.tag,.int .u32 r.hi.to],.int .i64 (r.J+1)] j fun e w'=>e=.returned (.bool false)∧ae j w')
  : Calls Tryz.prog 81 #[.pointer (some ⟨mb,0,none⟩),.agg #[.int .u8 r.al,.int .u8 r.I,.int .u8 r.J,.int .u8 r.lo.tag,.int .u32 r.lo.to,.int .u8 r.hi.tag,.int .u32 r.hi.to]] w fun e w'=>e=.returned (.tuple #[.int .u32 0,.int .i64 1])∧ae w w':=by
 have j:mb<w.heap.size:=aB t
 have I:=aa z
 have N:=aa E
 have L:=aa B
 have J:=aa A
 clear z E B A
 go_enter Tryz.func81,Tryz.ntmps81
 go_wp2_with (first|(go_at_call 139;refine(I.out _ kp).mono ?_;rintro e w1 ⟨rfl,j⟩;have s:ae (w.alloc (.cells #[.int .u8 r.al,.int .u8 r.I,.int .u8 r.J,.int .u8 r.lo.tag,.int .u32 r.lo.to,.int .u8 r.hi.tag,.int .u32 r.hi.to] 134)) w1:=kp;obtain⟨S,T,U,W,X,Y,Z⟩:=dL s;have q:ae w w1:=(((ae.refl _).alloc _).trans s);have O:=s.size;simp only[ai]at O;have j:=q.cell t)|fail)
 have s:=an.cell j
 have j:=an.cell S
 have j:=an.cell T
 have j:=an.cell U
 have j:=an.cell W
 have j:=an.cell X
 have j:=an.cell Y
 have j:=an.cell Z
 refine cU (w1) (by kernel_rfl) (by kernel_rfl) kp ?_;(repeat (go_big_quiet_step ((first|(go_at_call 140;refine Calls.b1 (N.out _))|(go_at_call 141;with_reducible refine Calls.b1 (L.out _ (q.trans (an.a4 _))))|(go_at_call 141;with_reducible refine Calls.b1 (J.out _ (q.trans (an.a4 _))))))));refine wpQuiet_nil ?_;rintro j ⟨⟨_,al⟩,rfl⟩;try dsimp only
 go_wp2
 go_ret2
 exact⟨rfl,kp⟩
theorem BD (mb:Nat)(r:Rec)(aw:0≤r.J)(a0:r.J≤255)(n room:Int)(O:Option Addr)(len cap:Nat)(w:World)
  (t:w.cell? ⟨mb,3,none⟩=some (.int .i64 n)) (S:w.cell? ⟨mb,0,none⟩=some (.slice O len cap)) (T:w.cell? ⟨mb,4,none⟩=some (.int .i64 room)) (a1:room≤(len:Int))
  (z:∀j,ae w j→Calls Tryz.prog 139 #[.pointer (some ⟨mb,0,none⟩),.agg #[.int .u8 r.al,.int .u8 r.I,.int .u8 r.J,.int .u8 r.lo.tag,.int .u32 r.lo.to,.int .u8 r.hi.tag,.int .u32 r.hi.to]] j fun e w'=>e=.returned (.int .u32 0)∧ae j w')
  (E:∀j,Calls Tryz.prog 140 #[.agg #[.int .u8 r.al,.int .u8 r.I,.int .u8 r.J,.int .u8 r.lo.tag,.int .u32 r.lo.to,.int .u8 r.hi.tag,.int .u32 r.hi.to],.int .i64 n] j fun e w'=>e=.returned (.bool true)∧ae j w')
  (B:∀j,ae w j→Calls Tryz.prog 141 #[.pointer (some ⟨mb,0,none⟩),.int .u8 r.al,.agg #[.int .u8 r.lo.tag,.int .u32 r.lo.to],.int .i64 (r.J+1)] j fun e w'=>e=.returned (.bool true)∧ae j w')
  (A:∀j,ae w j→Calls Tryz.prog 141 #[.pointer (some ⟨mb,0,none⟩),.int .u8 r.al,.agg #[.int .u8 r.hi.tag,.int .u32 r.hi.to],.int .i64 (r.J+1)] j fun e w'=>e=.returned (.bool true)∧ae j w')
  : Calls Tryz.prog 81 #[.pointer (some ⟨mb,0,none⟩),.agg #[.int .u8 r.al,.int .u8 r.I,.int .u8 r.J,.int .u8 r.lo.tag,.int .u32 r.lo.to,.int .u8 r.hi.tag,.int .u32 r.hi.to]] w fun e w'=>e=.returned (.tuple #[.int .u32 0,.int .i64 6])∧ae w w':=by
 have j:mb<w.heap.size:=aB t
 have I:=aa z
 have N:=aa E
 have L:=aa B
 have J:=aa A
 clear z E B A
 go_enter Tryz.func81,Tryz.ntmps81
 go_wp2_with (first|(go_at_call 139;refine(I.out _ kp).mono ?_;rintro e w1 ⟨rfl,j⟩;have s:ae (w.alloc (.cells #[.int .u8 r.al,.int .u8 r.I,.int .u8 r.J,.int .u8 r.lo.tag,.int .u32 r.lo.to,.int .u8 r.hi.tag,.int .u32 r.hi.to] 134)) w1:=kp;obtain⟨Y,Z,ab,ad,al,am,av⟩:=dL s;have q:ae w w1:=(((ae.refl _).alloc _).trans s);have W:=s.size;simp only[ai]at W;have j:=q.cell t)|fail)
 have s:=an.cell j
 have j:=an.cell Y
 have j:=an.cell Z
 have j:=an.cell ab
 have j:=an.cell ad
 have j:=an.cell al
 have j:=an.cell am
 have j:=an.cell av
 refine cU (w1) (by kernel_rfl) (by kernel_rfl) kp ?_;(repeat (go_big_quiet_step ((first|(go_at_call 140;refine Calls.b1 (N.out _))|(go_at_call 141;with_reducible refine Calls.b1 (L.out _ (q.trans (an.a4 _))))|(go_at_call 141;with_reducible refine Calls.b1 (J.out _ (q.trans (an.a4 _))))))));refine wpQuiet_nil ?_;rintro X ⟨⟨_,U⟩,rfl⟩;try dsimp only
 have j:ae w X:=q.trans U
 have q:=j.cell S
 have q:=j.cell T
 go_wp2
 go_quiet (fail)
 go_wp2
 go_ret2
 exact⟨rfl,kp⟩
theorem BE (mb:Nat)(r:Rec)(cd:0≤r.J)(ce:r.J≤255)(n room:Int)(lv:Value)(len q:Nat)(xs:List Value)(bs:Option Addr)(bt:Nat)(w:World)
  (ab:w.cell? ⟨mb,3,none⟩=some (.int .i64 n)) (X:w.cell? ⟨mb,0,none⟩=some lv) (Y:w.cell? ⟨mb,1,none⟩=some (.slice bs 0 bt)) (Z:w.cell? ⟨mb,2,none⟩=some (.int .u32 (q:Int))) (ad:w.cell? ⟨mb,4,none⟩=some (.int .i64 room)) (cg:(len:Int)<room) (cf:room≤1048576) (cc:q≤1048576)
  (bv:w.frozen? ⟨mb,0,none⟩=false) (bw:w.frozen? ⟨mb,2,none⟩=false) (E:w.ownsRow 0 164 8 lv len xs) (a5:lv.ownBlock≠some mb)
  (aw:∀j,ae w j→Calls Tryz.prog 139 #[.pointer (some ⟨mb,0,none⟩),.agg #[.int .u8 r.al,.int .u8 r.I,.int .u8 r.J,.int .u8 r.lo.tag,.int .u32 r.lo.to,.int .u8 r.hi.tag,.int .u32 r.hi.to]] j fun e w'=>e=.returned (.int .u32 0)∧ae j w')
  (a':∀j,Calls Tryz.prog 140 #[.agg #[.int .u8 r.al,.int .u8 r.I,.int .u8 r.J,.int .u8 r.lo.tag,.int .u32 r.lo.to,.int .u8 r.hi.tag,.int .u32 r.hi.to],.int .i64 n] j fun e w'=>e=.returned (.bool true)∧ae j w')
  (a3:∀j,ae w j→Calls Tryz.prog 141 #[.pointer (some ⟨mb,0,none⟩),.int .u8 r.al,.agg #[.int .u8 r.lo.tag,.int .u32 r.lo.to],.int .i64 (r.J+1)] j fun e w'=>e=.returned (.bool true)∧ae j w')
  (a0:∀j,ae w j→Calls Tryz.prog 141 #[.pointer (some ⟨mb,0,none⟩),.int .u8 r.al,.agg #[.int .u8 r.hi.tag,.int .u32 r.hi.to],.int .i64 (r.J+1)] j fun e w'=>e=.returned (.bool true)∧ae j w')
  : Calls Tryz.prog 81 #[.pointer (some ⟨mb,0,none⟩),.agg #[.int .u8 r.al,.int .u8 r.I,.int .u8 r.J,.int .u8 r.lo.tag,.int .u32 r.lo.to,.int .u8 r.hi.tag,.int .u32 r.hi.to]] w fun e w'=>e=.returned (.tuple #[.int .u32 ((q:Int)+2),.int .i64 0]) ∧
   ∃g cap w1 j,af (fun k=>k=mb) w j∧(∀cs,w.heap[mb]?=some (.cells cs 156 (0,0))→j.heap[mb]?=some (.cells (cs.setIfInBounds 2 (.int .u32 ((q:Int)+1))) 156 (0,0)))∧j.grownBy w1 lv.ownBlock∧(lv.ownBlock=some g∨j.heap.size≤g)∧w1.ownsRow 0 164 8 (.slice (some ⟨g,0,none⟩) (len+1) cap) (len+1) (xs++fo ((q:Int)+2,r))∧w'=w1.setCell ⟨mb,0,none⟩ (.slice (some ⟨g,0,none⟩) (len+1) cap):=by
 obtain⟨bd,be,rfl,-⟩:=dv E
 obtain⟨b2,hi,bD,b0,b1⟩:=info_parts rz
 have A:=aa a5
 have bf:=aa E
 clear a5 E
 have a4:mb<w.heap.size:=aB ab
 have bg:=aa aw
 have bp:=aa a'
 have bn:=aa a3
 have bi:=aa a0
 clear aw a' a3 a0
 go_enter Tryz.func81,Tryz.ntmps81
 go_wp2_with (first|(go_at_call 139;refine(bg.out _ kp).mono ?_;rintro e w1 ⟨rfl,av⟩;have J:ae (w.alloc (.cells #[.int .u8 r.al,.int .u8 r.I,.int .u8 r.J,.int .u8 r.lo.tag,.int .u32 r.lo.to,.int .u8 r.hi.tag,.int .u32 r.hi.to] 134)) w1:=kp;obtain⟨L,N,O,S,T,U,W⟩:=dL J;have z:ae w w1:=(((ae.refl _).alloc _).trans J);have I:=J.size;simp only[ai]at I;have al:=z.cell ab)|fail)
 have bq:=an.cell al
 have b5:=an.cell L
 have b6:=an.cell N
 have b7:=an.cell O
 have b8:=an.cell S
 have b9:=an.cell T
 have ca:=an.cell U
 have cb:=an.cell W
 refine cU (w1) (by kernel_rfl) (by kernel_rfl) kp ?_;(repeat (go_big_quiet_step ((first|(go_at_call 140;refine Calls.b1 (bp.out _))|(go_at_call 141;with_reducible refine Calls.b1 (bn.out _ (z.trans (an.a4 _))))|(go_at_call 141;with_reducible refine Calls.b1 (bi.out _ (z.trans (an.a4 _))))))));refine wpQuiet_nil ?_;rintro t ⟨⟨_,a1⟩,rfl⟩;try dsimp only
 have s:ae w t:=z.trans a1
 have am:=s.cell X
 have j:=s.cell Y
 have j:=s.cell Z
 have j:=s.cell ad
 obtain⟨z,j,E,J,ab,aw,a0⟩:=a1.ee ⟨L,N,O,S,T,U,W⟩
 have j:=s.cells.2
 have br:=(j mb 0 a4).trans bv
 have E:=(j mb 2 a4).trans bw
 have a7:mb<t.heap.size:=aB am
 have E:w.heap.size<t.heap.size:=aB z
 have z:mb≠w.heap.size:=by omega
 have z:w.heap.size≠mb:=by omega
 have a8:mb<t.heap.size+1:=by omega
 have z:=aa av
 have z:=aa I
 clear X Y Z ad al bq L N O S T U W b5 b6 b7 b8 b9 ca cb j av I
 go_wp2
 go_quiet (fail)
 go_wp2
 go_region_law (refine pG rfl (.tmp 104) (.tmp 108) 154 rfl 0 164 b2 _ 8 24 Tryz.underlying154 hi bD b0 b1 rfl (by decide) (.slice bd len be) len xs rfl ?_ _ 1 1 (fo ((q:Int)+2,r)) rfl rfl ?_ ?_ ?_ ?_ (Nat.zero_le _) ?_;exact af.bp (F:=fun k=>k=mb) (by(exact up)) (fun k h e=>A.out (e ▸ h)) bf.out;exact lZ _ _ _ _ (by simp);(intro u bb;simp[fo,df]at bb;rcases bb with rfl|rfl|rfl|rfl|rfl|rfl|rfl|rfl<;>rfl);(unfold maxLen;omega);omega;intro j b4 a6 B bx;(obtain⟨g,cap,rfl⟩:=mF a6 (by omega));have j:=jd (o:=0) (v:=.slice bd len be) B A.out (by simp[go_sem,am,a7,a8]);have j:=lh (o:=0) B (by simp;omega) A.out (by simp[go_sem,br,a7,a8]))
 all_goals go_wp2
 all_goals go_ret2
 all_goals refine⟨?_,g,cap,b4,_,?_,?_,B,bx g rfl,a6,rfl⟩
 all_goals first|((exact up);done)|(simp;done)|skip
 all_goals(intro cs j;have z:(t.drewN nq).heap[mb]?=some (.cells cs 156 (0,0)):=s.heap j)
 all_goals(have j:=heap_setCell_same _ mb 2 _ _ (.int .u32 ((q:Int)+1)) z;have b3:=aM j;(repeat (first|exact j|refine(Below.heap_alloc _ _ _ (by simp at b3 ⊢;omega)).trans ?_|(show(World.alloc _ _).heap[mb]?=_))))
theorem BC (mb:Nat)(r:Rec)(cg:0≤r.J)(ch:r.J≤255)(n room:Int)(lv:Value)(len k s:Nat)(id:Int)(xs:List Value)(z:Nat)(E:Int)(w:World)
  (am:w.cell? ⟨mb,3,none⟩=some (.int .i64 n)) (ab:w.cell? ⟨mb,0,none⟩=some lv) (ad:w.cell? ⟨mb,1,none⟩=some (.slice (some ⟨s,0,none⟩) (k+1) z)) (al:w.cell? ⟨mb,2,none⟩=some (.int .u32 E)) (av:w.cell? ⟨mb,4,none⟩=some (.int .i64 room)) (co:(len:Int)<room) (cn:room≤1048576) (bx:0≤E∧E≤1048576) (cj:k<1048576) (cl:k+1≤z) (hid:w.cell? ⟨s,k,none⟩=some (.int .u32 id)) (ci:s≠mb)
  (bD:w.frozen? ⟨mb,0,none⟩=false) (b0:w.frozen? ⟨mb,1,none⟩=false) (L:w.ownsRow 0 164 8 lv len xs) (a8:lv.ownBlock≠some mb)
  (a3:∀j,ae w j→Calls Tryz.prog 139 #[.pointer (some ⟨mb,0,none⟩),.agg #[.int .u8 r.al,.int .u8 r.I,.int .u8 r.J,.int .u8 r.lo.tag,.int .u32 r.lo.to,.int .u8 r.hi.tag,.int .u32 r.hi.to]] j fun e w'=>e=.returned (.int .u32 0)∧ae j w')
  (be:∀j,Calls Tryz.prog 140 #[.agg #[.int .u8 r.al,.int .u8 r.I,.int .u8 r.J,.int .u8 r.lo.tag,.int .u32 r.lo.to,.int .u8 r.hi.tag,.int .u32 r.hi.to],.int .i64 n] j fun e w'=>e=.returned (.bool true)∧ae j w')
  (a6:∀j,ae w j→Calls Tryz.prog 141 #[.pointer (some ⟨mb,0,none⟩),.int .u8 r.al,.agg #[.int .u8 r.lo.tag,.int .u32 r.lo.to],.int .i64 (r.J+1)] j fun e w'=>e=.returned (.bool true)∧ae j w')
  (a4:∀j,ae w j→Calls Tryz.prog 141 #[.pointer (some ⟨mb,0,none⟩),.int .u8 r.al,.agg #[.int .u8 r.hi.tag,.int .u32 r.hi.to],.int .i64 (r.J+1)] j fun e w'=>e=.returned (.bool true)∧ae j w')
  : Calls Tryz.prog 81 #[.pointer (some ⟨mb,0,none⟩),.agg #[.int .u8 r.al,.int .u8 r.I,.int .u8 r.J,.int .u8 r.lo.tag,.int .u32 r.lo.to,.int .u8 r.hi.tag,.int .u32 r.hi.to]] w fun e w'=>e=.returned (.tuple #[.int .u32 id,.int .i64 0]) ∧
   ∃g cap w1 j,af (fun k=>k=mb) w j∧(∀cs,w.heap[mb]?=some (.cells cs 156 (0,0))→j.heap[mb]?=some (.cells (cs.setIfInBounds 1 (.slice (some ⟨s,0,none⟩) k z)) 156 (0,0)))∧j.grownBy w1 lv.ownBlock∧(lv.ownBlock=some g∨j.heap.size≤g)∧w1.ownsRow 0 164 8 (.slice (some ⟨g,0,none⟩) (len+1) cap) (len+1) (xs++fo (id,r))∧w'=w1.setCell ⟨mb,0,none⟩ (.slice (some ⟨g,0,none⟩) (len+1) cap):=by
 obtain⟨bg,bi,rfl,-⟩:=dv L
 obtain⟨b5,hi,b2,b3,b4⟩:=info_parts rz
 have B:=aa a8
 have bn:=aa L
 clear a8 L
 have a7:mb<w.heap.size:=aB am
 have bp:=aa a3
 have bs:=aa be
 have br:=aa a6
 have bq:=aa a4
 clear a3 be a6 a4
 go_enter Tryz.func81,Tryz.ntmps81
 go_wp2_with (first|(go_at_call 139;refine(bp.out _ kp).mono ?_;rintro e w1 ⟨rfl,a1⟩;have O:ae (w.alloc (.cells #[.int .u8 r.al,.int .u8 r.I,.int .u8 r.J,.int .u8 r.lo.tag,.int .u32 r.lo.to,.int .u8 r.hi.tag,.int .u32 r.hi.to] 134)) w1:=kp;obtain⟨S,T,U,W,X,Y,Z⟩:=dL O;have A:ae w w1:=(((ae.refl _).alloc _).trans O);have N:=O.size;simp only[ai]at N;have aw:=A.cell am)|fail)
 have bt:=an.cell aw
 have b8:=an.cell S
 have b9:=an.cell T
 have ca:=an.cell U
 have cb:=an.cell W
 have cc:=an.cell X
 have cd:=an.cell Y
 have ce:=an.cell Z
 refine cU (w1) (by kernel_rfl) (by kernel_rfl) kp ?_;(repeat (go_big_quiet_step ((first|(go_at_call 140;refine Calls.b1 (bs.out _))|(go_at_call 141;with_reducible refine Calls.b1 (br.out _ (A.trans (an.a4 _))))|(go_at_call 141;with_reducible refine Calls.b1 (bq.out _ (A.trans (an.a4 _))))))));refine wpQuiet_nil ?_;rintro t ⟨⟨_,a5⟩,rfl⟩;try dsimp only
 have q:ae w t:=A.trans a5
 have a0:=q.cell ab
 have j:=q.cell ad
 have j:=q.cell al
 have j:=q.cell av
 obtain⟨cf,j,A,E,L,O,am⟩:=a5.ee ⟨S,T,U,W,X,Y,Z⟩
 have I:=q.cells.2
 have bv:=(I mb 0 a7).trans bD
 have j:=(I mb 1 a7).trans b0
 have bw:=q.cell hid
 obtain⟨j,A⟩:=bx
 have j:s<t.heap.size:=aB bw
 have bb:mb<t.heap.size:=aB a0
 have j:w.heap.size<t.heap.size:=aB cf
 have j:mb≠w.heap.size:=by omega
 have j:w.heap.size≠mb:=by omega
 have bd:mb<t.heap.size+1:=by omega
 have j:=aa a1
 have j:=aa N
 clear ab ad al av hid aw bt S T U W X Y Z b8 b9 ca cb cc cd ce I a1 N
 go_wp2
 go_quiet (fail)
 go_wp2
 go_quiet (fail)
 go_wp2
 go_region
 go_wp2
 go_region_law (refine pG rfl (.tmp 104) (.tmp 108) 154 rfl 0 164 b5 _ 8 24 Tryz.underlying154 hi b2 b3 b4 rfl (by decide) (.slice bg len bi) len xs rfl ?_ _ 1 1 (fo (id,r)) rfl rfl ?_ ?_ ?_ ?_ (Nat.zero_le _) ?_;exact af.bp (F:=fun k=>k=mb) (by(exact up)) (fun k h e=>B.out (e ▸ h)) bn.out;exact lZ _ _ _ _ (by simp);(intro u bf;simp[fo,df]at bf;rcases bf with rfl|rfl|rfl|rfl|rfl|rfl|rfl|rfl<;>rfl);(unfold maxLen;omega);omega;intro j b7 a' J b1;(obtain⟨g,cap,rfl⟩:=mF a' (by omega));have j:=jd (o:=0) (v:=.slice bg len bi) J B.out (by simp[go_sem,a0,bb,bd]);have j:=lh (o:=0) J (by simp;omega) B.out (by simp[go_sem,bv,bb,bd]))
 all_goals go_wp2
 all_goals go_ret2
 all_goals refine⟨?_,g,cap,b7,_,?_,?_,J,b1 g rfl,a',rfl⟩
 all_goals first|((exact up);done)|(simp;done)|skip
 all_goals(intro cs j;have A:(t.drewN nq).heap[mb]?=some (.cells cs 156 (0,0)):=q.heap j)
 all_goals(have j:=heap_setCell_same _ mb 1 _ _ (.slice (some ⟨s,0,none⟩) k z) A;have b6:=aM j;(repeat (first|exact j|refine(Below.heap_alloc _ _ _ (by simp at b6 ⊢;omega)).trans ?_|(show(World.alloc _ _).heap[mb]?=_))))
structure aV (F:Nat→Prop)(w:World)(mb:Nat)(M:St)(L:List (Int×Rec)):Prop where
 h8:∃lv gv,w.heap[mb]?=some (.cells #[lv,gv,.int .u32 (M.cs.length:Int),.int .i64 M.n,.int .i64 M.room] 156 (0,0)) ∧
  w.ownsRow 0 164 8 lv L.length (L.flatMap fo)∧w.ownsRow 0 50 1 gv M.gone.length (M.gone.map (Value.int .u32)) ∧
  (∀k,lv.ownBlock=some k→F k)∧(∀k,gv.ownBlock=some k→F k)
 own:F mb
 lt:∀k,F k→k<w.heap.size
 wf:M.wf
 mem:∀id r,(id,r)∈L↔look M.cs id=some r
 hR:(L.map Prod.fst).Nodup
 len:(L.length:Int)=M.len
 bx:M.cs.length≤1048576
 b0:∀p∈L,p.2.ok
theorem aV.a4 {F G:Nat→Prop}{w t:World}{mb:Nat}{M:St}{j:List (Int×Rec)}(h:aV F w mb M j)(q:af G w t)(s:∀k,F k→¬G k):aV F t mb M j:=by
 obtain⟨⟨lv,I,z,J,L,A,B⟩,t,a2,E⟩:=h;exact⟨⟨lv,I,(q.block mb (aM z) (s _ t)).trans z,q.bp (fun k j=>s _ (A k j)) J,q.bp (fun k j=>s _ (B k j)) L,A,B⟩,t,fun k j=>bI (a2 k j) q.size,E,by assumption,by assumption,by assumption,by assumption,by assumption⟩
theorem aV.ad {F:Nat→Prop}{w q:World}{mb:Nat}{M:St}{j:List (Int×Rec)}(h:aV F w mb M j)(s:ae w q):aV F q mb M j:=
 h.a4 (s.av (fun _=>False)) (fun _ _ h=>h)
theorem aV.le {F:Nat→Prop}{w:World}{mb:Nat}{M:St}{j:List (Int×Rec)}(h:aV F w mb M j):j.length≤1048576:=by
 have j:=h.len;have j:=h.wf.cS;have j:=h.wf.e6;omega
theorem aV.mono {F G:Nat→Prop}{w:World}{mb:Nat}{M:St}{q:List (Int×Rec)}(h:aV F w mb M q)(j:∀k,F k→G k)(U:∀k,G k→k<w.heap.size):aV G w mb M q:=by
 obtain⟨⟨lv,J,L,N,O,S,T⟩,s,a2,t,z,A,B,E,I⟩:=h;exact⟨⟨lv,J,L,N,O,fun k q=>j k (S k q),fun k q=>j k (T k q)⟩,j _ s,U,t,z,A,B,E,I⟩
theorem aV.cell {F:Nat→Prop}{w:World}{mb:Nat}{M:St}{q:List (Int×Rec)}(h:aV F w mb M q) :
  ∃a cap,w.cell? ⟨mb,0,none⟩=some (.slice a q.length cap)∧(q.length≠0→∃lb,a=some ⟨lb,0,none⟩∧F lb ∧
   (∀i p,q[i]?=some p→∀j,j<8→w.cell? ⟨lb,i*8+j,none⟩=(fo p)[j]?)):=by
 obtain⟨⟨lv,E,t,s,I,z,J⟩,-⟩:=h
 obtain⟨a,cap,rfl,B⟩:=dv s
 refine⟨a,cap,by rw[cell_of_row w mb 0 _ _ _ t];rfl,fun A=>?_⟩
 obtain⟨lb,rfl⟩:=B A
 refine⟨lb,rfl,z lb rfl,fun i c t j A=>?_⟩
 have hi:=(List.getElem?_eq_some_iff.1 t).1
 rw[s.cellAt (i*8+j) (by omega)]
 exact en fo 8 oY q i j c t A
def dU (j:List (Int×Rec))(id:Int):Int:=if j.findIdx (fun p=>decide (p.1=id))<j.length then(j.findIdx (fun p=>decide (p.1=id)):Int)else -1
theorem ir {F:Nat→Prop}{w:World}{mb:Nat}{M:St}{j:List (Int×Rec)}(h:aV F w mb M j)(id:Int) :
  Calls Tryz.prog 88 #[.pointer (some ⟨mb,0,none⟩),.int .u32 id] w fun e w'=>e=.returned (.int .i64 (dU j id))∧w=w':=by
 obtain⟨a,cap,q,s⟩:=h.cell
 refine Bt mb a j.length cap (j.findIdx (fun p=>decide (p.1=id))) id (fun i=>(j[i]?.getD (0,Rec.zero)).1) w q h.le ?_ List.findIdx_le_length ?_ ?_
 ·intro i hi;obtain⟨lb,rfl,_,t⟩:=s (by omega);refine⟨lb,rfl,?_⟩;have:=t i _ (ar hi) 0 (by omega);rw[gA]at this;rw[this,ar hi];rfl
 ·intro d q;have s:d<j.length:=bI q List.findIdx_le_length;have:=List.not_of_lt_findIdx q;rw[ar s];simpa using this
 ·intro j;have:=List.findIdx_getElem (w:=j);rw[ar j];simpa using this
theorem Bv {F:Nat→Prop}{w:World}{mb:Nat}{M:St}{j:List (Int×Rec)}(h:aV F w mb M j)(r:Rec) :
  Calls Tryz.prog 139 #[.pointer (some ⟨mb,0,none⟩),.agg #[.int .u8 r.al,.int .u8 r.I,.int .u8 r.J,.int .u8 r.lo.tag,.int .u32 r.lo.to,.int .u8 r.hi.tag,.int .u32 r.hi.to]] w fun e w'=>e=.returned (.int .u32 ((M.bD r).getD 0))∧ae w w':=by
 obtain⟨a,cap,t,B⟩:=h.cell
 have s:=fun(s:j.findIdx (fun p=>decide (p.2=r))<j.length)=>List.findIdx_getElem (w:=s)
 have I:(M.bD r).getD 0=if j.findIdx (fun p=>decide (p.2=r))<j.length then(j[j.findIdx (fun p=>decide (p.2=r))]?.getD (0,Rec.zero)).1 else 0:=by
  by_cases q:j.findIdx (fun p=>decide (p.2=r))<j.length
  ·rw[ah q,ar q];have z:(j[j.findIdx (fun p=>decide (p.2=r))]).2=r:=by simpa using s q
   have A:=(h.mem (j[j.findIdx (fun p=>decide (p.2=r))]).1 r).1 (by
    have:=List.getElem_mem q
    rwa[show j[j.findIdx (fun p=>decide (p.2=r))]=((j[j.findIdx (fun p=>decide (p.2=r))]).1,r)from Prod.ext rfl z]at this)
   rw[(jf h.wf.b3 r _).1 A];rfl
  ·rw[ag q];cases hi:M.bD r with
   |none=>rfl
   |some id=>
    exfalso;have:=(h.mem id r).2 (jA hi);exact q (List.findIdx_lt_length.2 ⟨_,this,by simp⟩)
 rw[I]
 refine Bw mb a j.length cap (j.findIdx (fun p=>decide (p.2=r))) r (fun i=>(j[i]?.getD (0,Rec.zero)).1) (fun i=>(j[i]?.getD (0,Rec.zero)).2) w t h.le ?_ List.findIdx_le_length ?_ ?_
 ·intro i hi;obtain⟨lb,rfl,_,E⟩:=B (by omega);refine⟨lb,rfl,fun z t=>?_⟩;rw[E i _ (ar hi) z t,ar hi];rfl
 ·intro d t;have z:d<j.length:=bI t List.findIdx_le_length;have:=List.not_of_lt_findIdx t;rw[ar z];simpa using this
 ·intro q;rw[ar q];simpa using s q
theorem fM {F:Nat→Prop}{w:World}{mb:Nat}{M:St}{j:List (Int×Rec)}(h:aV F w mb M j)(id:Int) :
  (∃r,look M.cs id=some r∧∃D:Nat,j[D]?=some (id,r)∧D=j.findIdx (fun p=>decide (p.1=id))∧D<j.length∧dU j id=(D:Int))∨(look M.cs id=none∧¬j.findIdx (fun p=>decide (p.1=id))<j.length∧dU j id=-1):=by
 by_cases q:j.findIdx (fun p=>decide (p.1=id))<j.length
 ·left;have s:(j[j.findIdx (fun p=>decide (p.1=id))]).1=id:=by simpa using List.findIdx_getElem (w:=q)
  have t:=(h.mem id (j[j.findIdx (fun p=>decide (p.1=id))]).2).1 (by
    have:=List.getElem_mem q
    rwa[show j[j.findIdx (fun p=>decide (p.1=id))]=(id,(j[j.findIdx (fun p=>decide (p.1=id))]).2)from Prod.ext s rfl]at this)
  refine⟨_,t,_,?_,rfl,q,by unfold dU;rw[ah q]⟩;rw[ar q];exact congrArg some (Prod.ext s rfl)
 ·right;refine⟨?_,q,by unfold dU;rw[ag q]⟩;cases z:look M.cs id with
  |none=>rfl
  |some r=>
   exact(q (List.findIdx_lt_length.2 ⟨_,(h.mem id r).2 z,by simp⟩)).elim
theorem kA {F:Nat→Prop}{w:World}{mb:Nat}{M:St}{s:List (Int×Rec)}(h:aV F w mb M s)(f:Int)(e:Edge)(l:Int)(j:e.ok) :
  Calls Tryz.prog 141 #[.pointer (some ⟨mb,0,none⟩),.int .u8 f,.agg #[.int .u8 e.tag,.int .u32 e.to],.int .i64 l] w fun r w'=>r=.returned (.bool (M.leads f e l))∧ae w w':=by
 obtain⟨a,cap,B,O⟩:=h.cell
 have S:=h.b0
 have J:=h.le
 have t:=fun(L:World) (N:ae w L)=>ir (h.ad N) e.to
 have T:=fM h e.to
 obtain⟨⟨lv,N,L,-⟩,-⟩:=h
 have E:w.cell? ⟨mb,3,none⟩=some (.int .i64 M.n):=by rw[cell_of_row w mb 3 _ _ _ L];rfl
 unfold dU at t
 rcases T with⟨r,A,D,I,rfl,q,-⟩|⟨A,q,-⟩
 ·have L:r.ok:=S _ (bB I);refine(sW mb f e.tag e.to l M.n a s.length cap _ r w j.1.1 j.1.2 L J E B t (fun _=>?_)).mono ?_
  ·obtain⟨lb,rfl,_,U⟩:=O (by omega);refine⟨lb,rfl,fun L N=>?_⟩;rw[U _ _ I (1+L) (by omega),kT 1 L];rfl
  ·rintro W w' ⟨rfl,z⟩;refine⟨?_,z⟩;congr 2
   unfold St.leads;rw[A];simp[q]
 ·refine(sW mb f e.tag e.to l M.n a s.length cap _ Rec.zero w j.1.1 j.1.2 Rec.hq J E B t (fun h=>(q h).elim)).mono ?_;rintro W w' ⟨rfl,z⟩;refine⟨?_,z⟩;congr 2
  unfold St.leads;rw[A];simp[q]
def iI (M:St)(j:List (Int×Rec))(r:Rec):List (Int×Rec):=
 match M.bD r with
 |some _=>j
 |none=>if M.br r then j else if M.room≤M.len then j else j++[(cQ M.gone M.cs.length,r)]
theorem Bs {F:Nat→Prop}{M:St}{j:List (Int×Rec)}{r:Rec}(N:r.ok)(q:M.wf)(A:∀id r,(id,r)∈j↔look M.cs id=some r)(L:(j.map Prod.fst).Nodup)(S:(j.length:Int)=M.len)(E:M.cs.length≤1048576)
  (I:∀p∈j,p.2.ok) (T:M.len<M.room) :
  (∀id s,(id,s)∈j++[(cQ M.gone M.cs.length,r)]↔look (M.add r).cs id=some s)∧((j++[(cQ M.gone M.cs.length,r)]).map Prod.fst).Nodup∧((j++[(cQ M.gone M.cs.length,r)]).length:Int)=(M.add r).len ∧
   (M.add r).cs.length≤1048576∧∀p∈j++[(cQ M.gone M.cs.length,r)],p.2.ok:=by
 refine⟨fun id s=>?_,?_,?_,?_,?_⟩
 ·rw[q.fj r id s,List.mem_append,A];simp only[cF,Prod.mk.injEq];exact Or.comm
 ·rw[fL,List.nodup_append];refine⟨L,by simp,?_⟩;intro x O y B;simp at B;obtain⟨p,hp,rfl⟩:=List.mem_map.1 O;have t:=(A p.1 p.2).1 hp;have z:=(mK q.gone).2.2;intro e;rw[e,B,z]at t;cases t
 ·rw[M.fg r];simp;omega
 ·have t:=q.fp;have z:=q.e6;have j:=q.cS;unfold St.add dn;cases j:M.gone.getLast? with
  |none=>
   have J:M.gone=[]:=(by simpa using j);have:M.len=(M.cs.length:Int):=(by unfold St.len;rw[J];simp);simp;omega
  |some x=>simpa using E
 ·intro p hp;rcases List.mem_append.1 hp with hp|hp;·exact I p hp
  ·simp at hp;rw[hp];exact N
theorem Bu {F:Nat→Prop}{w:World}{mb:Nat}{M:St}{q:List (Int×Rec)}(h:aV F w mb M q)(r:Rec)(a7:r.ok) :
  Calls Tryz.prog 81 #[.pointer (some ⟨mb,0,none⟩),.agg #[.int .u8 r.al,.int .u8 r.I,.int .u8 r.J,.int .u8 r.lo.tag,.int .u32 r.lo.to,.int .u8 r.hi.tag,.int .u32 r.hi.to]] w fun e w'=>
   e=.returned (.tuple #[.int .u32 (M.bd r),.int .i64 (M.a' r)])∧af F w w'∧aV (aC F w w') w' mb (M.a7 r) (iI M q r):=by
 have ch:=fun(A:World) (t:ae w A) (e:Edge) (J:e.ok)=>kA (h.ad t) r.al e (r.J+1) J
 have W:=fun(A:World) (t:ae w A)=>Bv (h.ad t) r
 have b2:∀{e:Ending} {w':World} {i bw:Int},M.a7 r=M→iI M q r=q→M.bd r=i→M.a' r=bw→e=.returned (.tuple #[.int .u32 i,.int .i64 bw])∧ae w w' →
   e=.returned (.tuple #[.int .u32 (M.bd r),.int .i64 (M.a' r)])∧af F w w'∧aV (aC F w w') w' mb (M.a7 r) (iI M q r):=by
  intro e w' i bw z bf U E ⟨a1,a'⟩
  rw[z,U,E,bf]
  have j:=h.ad a'
  refine⟨a1,a'.av F,j.mono (fun k j=>.inl j) (fun k bd=>?_)⟩
  rcases bd with bd|bd
  ·exact j.lt k bd
  ·exact bd.2
 have bq:=h.wf
 have bd:=h.le
 have bd:=h.lt
 have cE:=fun bp=>Bs (F:=F) a7 h.wf h.mem h.hR h.len h.bx h.b0 bp
 have a3:=a7.J.1
 have a4:=a7.J.2
 have X:=fun A=>Bx r a7 M.n A
 obtain⟨⟨lv,cD,z,U,E,a1,a'⟩,av,a2,bd,bw,c',da,cn,db⟩:=h
 have br:w.cell? ⟨mb,0,none⟩=some lv:=by rw[cell_of_row w mb 0 _ _ _ z];rfl
 have cb:w.cell? ⟨mb,1,none⟩=some cD:=by rw[cell_of_row w mb 1 _ _ _ z];rfl
 have cc:w.cell? ⟨mb,2,none⟩=some (.int .u32 (M.cs.length:Int)):=by rw[cell_of_row w mb 2 _ _ _ z];rfl
 have ad:w.cell? ⟨mb,3,none⟩=some (.int .i64 M.n):=by rw[cell_of_row w mb 3 _ _ _ z];rfl
 have bs:w.cell? ⟨mb,4,none⟩=some (.int .i64 M.room):=by rw[cell_of_row w mb 4 _ _ _ z];rfl
 have bg:∀o,w.frozen? ⟨mb,o,none⟩=false:=fun o=>frozen_of_row w mb o _ _ z
 have ci:=aM z
 cases hi:M.bD r with
 |some id=>
  rw[hi]at W;have U:=(ck (jA hi)).1;refine(BF mb r id M.n w (by omega) ad W).mono fun e w' J=>?_;exact b2 (by unfold St.a7;rw[hi]) (by unfold iI;rw[hi]) (by unfold St.bd;rw[hi]) (by unfold St.a';rw[hi]) J
 |none=>
  rw[hi]at W;have ab:=fun A t=>ch A t r.lo a7.lo;have a6:=fun A t=>ch A t r.hi a7.hi;cases s:M.br r with
  |true=>
   have fin:∀{e:Ending} {w':World},e=.returned (.tuple #[.int .u32 0,.int .i64 1])∧ae w w'→e=.returned (.tuple #[.int .u32 (M.bd r),.int .i64 (M.a' r)])∧af F w w'∧aV (aC F w w') w' mb (M.a7 r) (iI M q r):=
    b2 (by unfold St.a7;rw[hi,s];rfl) (by unfold iI;rw[hi,s];rfl) (by unfold St.bd;rw[hi,s];rfl) (by unfold St.a';rw[hi,s];rfl)
   unfold St.br at s;cases a7:fT r M.n with
   |false=>
    rw[a7]at X;exact(Bz mb r a3 a4 M.n w ad W X).mono fun e w' J=>fin J
   |true=>
    rw[a7]at X s;cases bf:M.leads r.al r.lo (r.J+1)with
    |false=>
     rw[bf]at ab;exact(BA mb r a3 a4 M.n w ad W X ab).mono fun e w' J=>fin J
    |true=>
     rw[bf]at ab s;have a7:M.leads r.al r.hi (r.J+1)=false:=(by simpa using s);rw[a7]at a6;exact(BB mb r a3 a4 M.n w ad W X ab a6).mono fun e w' J=>fin J
  |false=>
   have bb:=s;unfold St.br at bb;simp only[Bool.or_eq_false_iff,Bool.not_eq_false']at bb;rw[bb.1.1]at X;rw[bb.1.2]at ab;rw[bb.2]at a6;by_cases Z:M.room≤M.len
   ·obtain⟨c5,c6,rfl,-⟩:=dv U;refine(BD mb r a3 a4 M.n M.room c5 q.length c6 w ad br bs (by omega) W X ab a6).mono fun e w' J=>?_;exact b2 (by unfold St.a7;rw[hi,s];simp[Z]) (by unfold iI;rw[hi,s];simp[Z]) (by unfold St.bd;rw[hi,s];simp[Z]) (by unfold St.a';rw[hi,s];simp[Z]) J
   ·have bp:M.len<M.room:=(by omega);have co:M.a7 r=M.add r:=(by unfold St.a7;rw[hi,s];simp[Z,St.add]);have cp:M.bd r=cQ M.gone M.cs.length:=(by unfold St.bd;rw[hi,s];simp[Z]);have cv:M.a' r=0:=(by unfold St.a';rw[hi,s];simp[Z]);have cx:iI M q r=q++[(cQ M.gone M.cs.length,r)]:=(by unfold iI;rw[hi,s];simp[Z]);obtain⟨b6,b7,b8,b9,ca⟩:=cE bp;have cl:=bq.add hi s bp;have cj:=bq.e6
    have bn:lv.ownBlock≠some mb:=by
     intro e;obtain⟨aw,B⟩:=bF U e;exact de B z (by decide) rfl
    rw[co,cp,cv,cx];cases a5:M.gone.getLast? with
    |none=>
     have cg:M.gone=[]:=(by simpa using a5);rw[cg]at E;obtain⟨ce,Y,rfl,-⟩:=dv E;have I:cQ M.gone M.cs.length=(M.cs.length:Int)+2:=(by unfold cQ;rw[a5]);have bt:(M.add r).cs=M.cs++[some r]:=(by unfold St.add dn;rw[a5]);have bv:(M.add r).gone=[]:=(by unfold St.add;rw[cg];rfl);refine(BE mb r a3 a4 M.n M.room lv q.length M.cs.length (q.flatMap fo) ce Y w ad br cb cc bs (by omega) cj cn (bg 0) (bg 2) U bn W X ab a6).mono ?_;rintro e w' ⟨rfl,g,cap,w1,A,N,t,al,L,am,rfl⟩;have t:=t _ z;simp at t;have b1:mb<A.heap.size:=bI ci N.size;have a8:=(al.block mb b1 (fun e=>bn e.symm)).trans t
     have b0:mb≠g:=by
      intro e;obtain⟨aw,B⟩:=bF am (k:=g) rfl;exact de a8 B (by decide) e
     have be:af F w w1:=(N.mono (fun k _ e=>by simpa[e]using av)).b8 al (fun k j=>.inl (a1 k j));rw[I];refine⟨rfl,be.setCell (p:=⟨mb,0,none⟩) (.inl av) _,⟨⟨.slice (some ⟨g,0,none⟩) (q.length+1) cap,.slice ce 0 Y,?_,?_,?_,?_,?_⟩,?_,?_,cl,?_,?_,?_,b9,?_⟩⟩
     ·have:=heap_setCell_same _ mb 0 _ _ (.slice (some ⟨g,0,none⟩) (q.length+1) cap) a8;rw[bt,show(M.add r).n=M.n from rfl,show(M.add r).room=M.room from rfl];simpa using this
     ·have:=af.bp (F:=fun k=>k=mb) (af.setCell (F:=fun k=>k=mb) (p:=⟨mb,0,none⟩) (af.refl _ w1) (Or.inl rfl) (.slice (some ⟨g,0,none⟩) (q.length+1) cap)) (fun k j e=>b0 (by simp[Value.ownBlock]at j;omega)) am;simpa[jV]using this
     ·rw[bv];obtain⟨s,O⟩:=E;refine⟨by simp,?_⟩;rcases O with⟨O,_⟩|⟨a0,s,cd,O,b4,S,b5⟩
      ·exact .inl ⟨by simpa using O,rfl⟩
      ·simp at O;obtain⟨rfl,rfl⟩:=O;have cf:a0≠mb:=de S z (by decide);refine .inr ⟨a0,Y,cd,rfl,b4,?_,by simpa using b5⟩;rw[heap_setCell_other _ _ _ _ cf]
       have bx:some a0≠lv.ownBlock:=by
        intro e;obtain⟨aw,B⟩:=bF U e.symm;exact de S B (by decide) rfl
       rw[al.block a0 (bI (aM S) N.size) bx,N.block a0 (aM S) cf];exact S
     ·intro k j;simp[Value.ownBlock]at j;subst j;rcases L with L|L;·exact .inl (a1 _ L)
      ·refine .inr ⟨eF N.size L,?_⟩;obtain⟨aw,B⟩:=bF am (k:=g) rfl;have:=aM B;rw[au];exact this
     ·intro k j;exact .inl (a' k j)
     ·exact .inl av
     ·intro k j;rcases j with j|j
      ·have:=a2 k j;have:=be.size;rw[au];omega
      ·exact j.2
     ·rw[←I];exact b6
     ·rw[←I];exact b7
     ·rw[←I];exact b8
     ·rw[←I];exact ca
    |some id=>
     obtain⟨gs,bi⟩:∃gs,M.gone=gs++[id]:=List.getLast?_eq_some_iff.1 a5;have hid:=bq.gone id (by rw[bi];simp);have I:cQ M.gone M.cs.length=id:=(by unfold cQ;rw[a5]);have bt:(M.add r).cs.length=M.cs.length:=(by unfold St.add dn;rw[a5];simp);have bv:(M.add r).gone=gs:=(by unfold St.add;rw[bi];simp);rw[bi]at E;have c4:(gs++[id]).length=gs.length+1:=(by simp);rw[c4]at E;obtain⟨dj,Y,rfl,c0⟩:=dv E;obtain⟨T,rfl⟩:=c0 (by simp);obtain⟨cd,cS⟩:=bF E (k:=T) rfl;have bD:T≠mb:=de cS z (by decide)
     have c3:w.cell? ⟨T,gs.length,none⟩=some (.int .u32 id):=by
      rw[E.cellAt gs.length (by omega)];simp
     have c1:gs.length+1≤Y:=by
      rcases E.2 with⟨b3,_⟩|⟨_,_,_,b3,_,_,b5,_⟩
      ·simp at b3
      ·simp at b3;omega
     have c2:gs.length<1048576:=by
      have s:M.len=(M.cs.length:Int)-(gs.length+1:Nat):=(by unfold St.len;rw[bi];simp);have:=bq.fp;omega
     refine(BC mb r a3 a4 M.n M.room lv q.length gs.length T id (q.flatMap fo) Y (M.cs.length:Int) w ad br cb cc bs (by omega) cj ⟨by omega,by omega⟩ c2 c1 c3 bD (bg 0) (bg 1) U bn W X ab a6).mono ?_;rintro e w' ⟨rfl,g,cap,w1,A,N,t,al,L,am,rfl⟩;have t:=t _ z;simp at t;have b1:mb<A.heap.size:=bI ci N.size;have a8:=(al.block mb b1 (fun e=>bn e.symm)).trans t
     have b0:mb≠g:=by
      intro e;obtain⟨aw,B⟩:=bF am (k:=g) rfl;exact de a8 B (by decide) e
     have be:af F w w1:=(N.mono (fun k _ e=>by simpa[e]using av)).b8 al (fun k j=>.inl (a1 k j));rw[I];refine⟨rfl,be.setCell (p:=⟨mb,0,none⟩) (.inl av) _,⟨⟨.slice (some ⟨g,0,none⟩) (q.length+1) cap,.slice (some ⟨T,0,none⟩) gs.length Y,?_,?_,?_,?_,?_⟩,?_,?_,cl,?_,?_,?_,b9,?_⟩⟩
     ·have:=heap_setCell_same _ mb 0 _ _ (.slice (some ⟨g,0,none⟩) (q.length+1) cap) a8;rw[bt,show(M.add r).n=M.n from rfl,show(M.add r).room=M.room from rfl];simpa using this
     ·have:=af.bp (F:=fun k=>k=mb) (af.setCell (F:=fun k=>k=mb) (p:=⟨mb,0,none⟩) (af.refl _ w1) (Or.inl rfl) (.slice (some ⟨g,0,none⟩) (q.length+1) cap)) (fun k j e=>b0 (by simp[Value.ownBlock]at j;omega)) am;simpa[jV]using this
     ·rw[bv];refine⟨by simp,?_⟩;rcases E.2 with⟨O,_⟩|⟨a0,q,cy,O,b4,S,b5,c7,c8,c9⟩
      ·simp at O
      ·simp at O;obtain⟨rfl,rfl⟩:=O
       have bx:some T≠lv.ownBlock:=by
        intro e;obtain⟨aw,B⟩:=bF U e.symm;exact de S B (by decide) rfl
       refine .inr ⟨T,Y,cy,by simp,b4,?_,by first|omega|(simp;omega),c7,c8,?_⟩
       ·rw[heap_setCell_other _ _ _ _ bD,al.block T (bI (aM S) N.size) bx,N.block T (aM S) bD];exact S
       ·have:=congrArg (List.take gs.length) c9;rw[List.take_take]at this;simpa[Nat.min_eq_left]using this
     ·intro k j;simp[Value.ownBlock]at j;subst j;rcases L with L|L;·exact .inl (a1 _ L)
      ·refine .inr ⟨eF N.size L,?_⟩;obtain⟨aw,B⟩:=bF am (k:=g) rfl;have:=aM B;rw[au];exact this
     ·intro k j;exact .inl (a' k (by simpa[Value.ownBlock]using j))
     ·exact .inl av
     ·intro k j;rcases j with j|j
      ·have:=a2 k j;have:=be.size;rw[au];omega
      ·exact j.2
     ·rw[←I];exact b6
     ·rw[←I];exact b7
     ·rw[←I];exact b8
     ·rw[←I];exact ca
def bH (w:World)(a:Option Addr)(ps:List Int):Prop:=∀i x,ps[i]?=some x→∃b off,a=some ⟨b,off,none⟩∧w.cell? ⟨b,off+i,none⟩=some (.int .i64 x)
theorem bH.ad {w w':World}{a:Option Addr}{ps:List Int}(h:bH w a ps)(s:ae w w'):bH w' a ps:=fun i x t=>by
 obtain⟨b,off,j,q⟩:=h i x t;exact⟨b,off,j,s.cell q⟩
theorem lO (n:Nat)(h:n<2 ^ 63):IntKind.i64.wrap (n:Int)=(n:Int):=by
 have e:(n:Int)%2 ^ 64=n:=Int.emod_eq_of_lt (by omega) (by omega);simp only[IntKind.wrap,IntKind.bits,IntKind.signed,e];rw[ag];simp;omega
theorem nM (j:Int)(s:0≤j)(q:j≤9223372036854775807):bits BinOp.and IntKind.i64 j 1=j%2:=by
 obtain⟨a,rfl⟩:∃a:Nat,j=(a:Int):=⟨j.toNat,by omega⟩;have s:a &&& 1=a%2:=Nat.and_one_is_mod a
 have q:(BitVec.ofInt 64 (a:Int)).toNat=a:=by
  rw[BitVec.ofInt_natCast,BitVec.toNat_ofNat];exact dT (by omega)
 have j:(BitVec.ofInt 64 ((1:Nat):Int)).toNat=1:=by
  rw[BitVec.ofInt_natCast,BitVec.toNat_ofNat]
 show IntKind.i64.wrap ((BitVec.ofInt 64 (a:Int) &&& BitVec.ofInt 64 ((1:Nat):Int)).toNat:Int)=_;rw[BitVec.toNat_and,q,j,s,lO _ (by omega)];omega
theorem o7 (a b:Nat)(q:a<2 ^ 62)(s:b<2 ^ 62):bits BinOp.or IntKind.i64 (a:Int) (b:Int)=((a ||| b:Nat):Int):=by
 have j:∀c:Nat,c<2 ^ 62→(BitVec.ofInt 64 (c:Int)).toNat=c:=fun c t=>by
  rw[BitVec.ofInt_natCast,BitVec.toNat_ofNat];exact dT (by omega)
 have t:a ||| b<2 ^ 62:=Nat.or_lt_two_pow q s;show IntKind.i64.wrap ((BitVec.ofInt 64 (a:Int) ||| BitVec.ofInt 64 (b:Int)).toNat:Int)=_;rw[BitVec.toNat_or,j a q,j b s,lO _ (by omega)]
def ix (m:Nat)(l:List Int):Prop:=m<65536∧∀j:Nat,m.testBit j=true↔(j:Int)∈l
theorem ix.nil:ix 0 []:=⟨by decide,fun j=>by simp⟩
theorem ix.add {m:Nat}{l:List Int}{x:Int}(h:ix m l)(j:0≤x)(q:x<16):ix (m ||| 2 ^ x.toNat) (l++[x]):=by
 have j:2 ^ x.toNat<2 ^ 16:=Nat.pow_lt_pow_right (by decide) (by omega);refine⟨Nat.or_lt_two_pow (n:=16) h.1 j,fun q=>?_⟩;rw[Nat.testBit_or,dS,h.2 q,List.mem_append,cF,Nat.testBit_two_pow];simp only[bC];constructor
 ·rintro(a|a);·exact .inl a
  ·exact .inr (by omega)
 ·rintro(a|a);·exact .inl a
  ·exact .inr (by omega)
theorem ix.hs {m:Nat}{l:List Int}{x:Int}(h:ix m l)(j:0≤x):(bits BinOp.and IntKind.i64 ((m:Int) / 2 ^ x.toNat) 1==1)=decide (x∈l):=by
 have j:=h.1;have j:(0:Int)<2 ^ x.toNat:=Int.pow_pos (by decide);have j:0≤(m:Int) / 2 ^ x.toNat:=Int.ediv_nonneg (by omega) (by omega);have s:(m:Int) / 2 ^ x.toNat≤m:=Int.ediv_le_self _ (by omega);rw[nM _ j (by omega)];have q:=h.2 x.toNat;rw[show((x.toNat:Nat):Int)=x by omega]at q;have e:(m:Int) / 2 ^ x.toNat=((m / 2 ^ x.toNat:Nat):Int):=by push_cast;rfl
 rw[e];have s:m.testBit x.toNat=decide (m / 2 ^ x.toNat%2=1):=Nat.testBit_eq_decide_div_mod_eq;by_cases j:x∈l
 ·have:=q.2 j;rw[s,bC]at this;rw[bc j,beq_iff_eq];omega
 ·have:¬m / 2 ^ x.toNat%2=1:=fun t=>j (q.1 (by rw[s];exact bc t));rw[aY j,beq_eq_false_iff_ne];omega
theorem ae.a3 {w w':World}(h:ae w w'){a:Addr}(q:a.block<w.heap.size)(j:w.frozen? a=false):w'.frozen? a=false:=(Below.frozen h q).trans j
theorem ae.d' {w w':World}(h:ae w w'){a:Addr}(q:a.block<w.heap.size:=by simp)(j:w.frozen? a=false:=by simp[go_sem]):w'.frozen? a=false:=h.a3 q j
open Go
def mo (ops:Array Oper)(n:Nat):Bool:=
 (List.range ops.size).all fun j=>decide (j≤n)||(List.range j).any fun q=>decide (n≤q)&&Region.waitsFor .any ops j q
section
variable {P:Program}{ops:Array Oper}{w:World}
theorem zX {n:Nat}{J:Array Bool}(al:Region.sinkB .any ops n=true)(Y:mo ops n=true)(S:HeadInv .any ops n J) :
  ∀(d i:Nat),n-i=d→i<n→J.getD i true=false→∀j∈Region.ready .any ops J,j<n:=by
 intro d
 induction d using Nat.strongRecOn with
 |_ d av=>
  intro i ad hi X j W;refine Classical.byContradiction fun ab=>?_;obtain⟨_,o,O,T⟩:=mem_ready.1 W;have am:j<ops.size:=(Array.getElem?_eq_some_iff.1 O).1;rcases Nat.lt_or_ge n j with ad|ad
  ·have z:=List.all_eq_true.1 Y j (List.mem_range.2 am);rw[Bool.or_eq_true]at z;rcases z with z|z
   ·have:=of_decide_eq_true z;omega
   ·obtain⟨t,N,s⟩:=List.any_eq_true.1 z;rw[Bool.and_eq_true]at s;obtain⟨L,E,e,B,A,I⟩:=Region.waitsFor_spec s.2;obtain rfl:L=o:=Option.some.inj (E.symm.trans O);have q:=T e B A;rw[I,getD_both (S.tail t (of_decide_eq_true s.1) (by have:=List.mem_range.1 N;omega))]at q;cases q
  ·obtain rfl:j=n:=(by omega);obtain⟨t,N,s⟩:=List.any_eq_true.1 (List.all_eq_true.1 al i (List.mem_range.2 hi));rw[Bool.and_eq_true]at s;have z:=of_decide_eq_true s.1;obtain⟨L,E,e,B,A,I⟩:=Region.waitsFor_spec s.2;have s:=List.mem_range.1 N;by_cases Z:t=j
   ·subst Z;obtain rfl:L=o:=Option.some.inj (E.symm.trans O);have q:=T e B A;rw[I,getD_both X]at q;cases q
   ·rcases U:J.getD t false with _|_;·exact ab (av (j-t) (by omega) t rfl (by omega) (getD_in (by rw[S.size];omega) U) j W)
    ·have q:=S.closed t L E U e B A;rw[I,getD_both X]at q;cases q
theorem qZ {n i:Nat}{A:Oper}{v:Value}{E:Array Bool→Act→Prop}(hi:ops[i]?=some A)(J:Region.noSelect ops=true)(Z:Region.sinkB .any ops n=true)(O:mo ops n=true)(U:i<n)
  (S:∀q a,E q a→∀j∈Region.ready .any ops q,n≤j) :
  ∀(f:Nat) (q:Array Bool) (a:Act),HeadInv .any ops n q →
   (∀j s,ops[j]?=some s→j≠i→q.getD j true=false→(∀e∈s.after,Region.binds .any e=true→e.on≠i)→A.apart ops s=true) →
   i∈Region.ready .any ops q→YieldsAt P ops w A v a →
   wpAnyL P .any ops w n E f (q.setIfInBounds i true) (a.put A.dst v)→wpAnyL P .any ops w n E (f+1) q a
 |f,q,a,al,T,B,ad,H=>by
  have ab:=(mem_ready.1 B).1;refine⟨fun h=>(by rw[h]at B;cases B),fun j z=>?_⟩;have X:=zX Z O al _ i rfl U ab j z;refine⟨X,?_⟩;by_cases t:j=i
  ·subst t;exact ad.stOp hi H
  ·cases f with
   |zero=>
    have:=S _ _ H j (ready_mono z t);omega
   |succ f=>
    obtain⟨Y,s,I,E⟩:=mem_ready.1 z
    have a0:∀e∈s.after,Region.binds .any e=true→e.on≠i:=fun e av am aw=>by
     have L:=E e av am;rw[aw,getD_both ab]at L;cases L
    have E:=stOp_put I (T j s I t Y a0) (fun cs b=>Region.noSelect_spec J i A cs b hi) (fun cs b=>Region.noSelect_spec J j s cs b I) ad (H.2 j (ready_mono z t)).2;refine stOp_mono (fun s N=>qZ hi J Z O U S f (q.setIfInBounds j true) s (al.set z X) ?_ (ready_mono B (Ne.symm t)) N.1 ?_) E
    ·intro k ok q s a1 z;refine T k ok q s ?_ z;by_cases W:j=k
     ·subst W;exact Y
     ·rwa[getD_set_ne true W]at a1
    ·rw[Array.setIfInBounds_comm _ _ t];exact N.2
def lk (ops:Array Oper)(n:Nat)(q:Array Bool):Nat→Nat→Array Bool→Bool
 |0,_,j=>decide (j=q)&&(Region.ready .any ops q).all (fun s=>decide (n≤s))
 |f+1,k,j=>(Region.ready .any ops j).contains k&&Region.free .any ops j k&&lk ops n q f (k+1) (j.setIfInBounds k true)
theorem re {n:Nat}{A:Array Bool}{G:Act→Prop}(S:Region.noSelect ops=true)(O:Region.sinkB .any ops n=true)(E:mo ops n=true) :
  ∀(l:List Oper) (k:Nat) (s:Array Bool) (a:Act),(∀j,j<l.length→l[j]?=ops[k+j]?)→k+l.length=n→HeadInv .any ops n s→lk ops n A l.length k s=true →
   wpStill P ops w G l a→wpAnyL P .any ops w n (fun U B=>(U=A∧∀j∈Region.ready .any ops A,n≤j)∧G B) l.length s a
 |[],k,s,a,_,_,_,q,h=>by
  simp only[List.length_nil,lk,Bool.and_eq_true,decide_eq_true_eq]at q;exact⟨⟨q.1,fun j t=>of_decide_eq_true (List.all_eq_true.1 q.2 j t)⟩,h⟩
 |o::l,k,s,a,L,I,T,q,h=>by
  have z:ops[k]?=some o:=by simpa using(L 0 (by simp)).symm
  simp only[List.length_cons,lk,Bool.and_eq_true]at q;have J:k<n:=by simp only[List.length_cons]at I;omega
  have N:k∈Region.ready .any ops s:=by simpa using q.1.1
  have X:stOp P ops w k (wpStill P ops w G l) a:=by
   unfold stOp;simp only[z];exact h
  obtain⟨v,Y,W⟩:=yieldsAt_of_stOp z X;refine qZ z S O E J (fun U B A j t=>?_) l.length s a T (Region.free_spec z q.1.2) N Y ?_
  ·rw[A.1.1]at t;exact A.1.2 j t
  ·exact re S O E l (k+1) _ _ (fun j t=>by have:=L (j+1) (by simp;omega);simpa[Nat.add_assoc,Nat.add_comm 1 j]using this) (by simp only[List.length_cons]at I;omega) (T.set N J) q.2 W
def qY (ops:Array Oper)(n:Nat)(j:Array Bool):Bool:=
 Region.noSelect ops&&decide (n<ops.size)&&Region.sinkB .any ops n&&mo ops n&&lk ops n j n 0 (Array.replicate ops.size false)
theorem kN {id:Nat}{Q:Exit→Act→World→Prop}{a:Act}{l:List Oper}(n:Nat)(q:Array Bool)(J:P.follows .mixedOrders=true)(t:qY l.toArray n q=true)
  (h:wpStill P l.toArray w.drew (fun s=>wpAny P .any l.toArray Q (l.length-n) q s w.drew) (l.take n) a):(Code.region id l.toArray true).wp P Q a w:=by
 simp only[qY,Bool.and_eq_true,decide_eq_true_eq]at t
 obtain⟨⟨⟨⟨N,q⟩,L⟩,B⟩,I⟩:=t
 have t:n<l.length:=by simpa using q
 have j:(l.take n).length=n:=by simp;omega
 have O:HeadInv .any l.toArray n (Array.replicate l.toArray.size false):=
  ⟨by simp,fun A q _ z=>(by rw[getD_replicate_false]at z;cases z),fun t _ q=>getD_in (by simpa using q) (getD_replicate_false _ _)⟩
 have H:=re N L B (l.take n) 0 (Array.replicate l.toArray.size false) a (fun A q=>by
  have E:A<n:=by rw[j]at q;exact q
  simp[E]) (by simpa using j) O (by rw[j];exact I) h
 refine wp_region_any J ?_
 have:=wpAny_of_head (Q':=Q) (g:=l.length-n) (fun q s q=>by rw[q.1.1];exact q.2) _ _ _ H
 rw[j,show n+(l.length-n)=l.toArray.size by simp;omega]at this
 exact this
end
theorem ja (x y:Edge)(h:x=y)(j:World):(binOp .eql 52 (.agg #[.int .u8 x.tag,.int .u32 x.to]) (.agg #[.int .u8 y.tag,.int .u32 y.to])).run Tryz.prog j=.ok (.bool true) j:=by rw[mR];simp[h]
theorem ij (x y:Edge)(h:x≠y)(j:World):(binOp .eql 52 (.agg #[.int .u8 x.tag,.int .u32 x.to]) (.agg #[.int .u8 y.tag,.int .u32 y.to])).run Tryz.prog j=.ok (.bool false) j:=by rw[mR];simp[h]
theorem qE (x y:Edge)(w:World) :
  Calls Tryz.prog 143 #[.agg #[.int .u8 x.tag,.int .u32 x.to],.agg #[.int .u8 y.tag,.int .u32 y.to]] w fun e w'=>e=.returned (.bool (decide (x=y)))∧ae w w':=by
 obtain⟨a,b⟩:=x
 obtain⟨c,d⟩:=y
 go_enter Tryz.func143,Tryz.ntmps143
 go_wp2
 all_goals(go_ret;refine⟨?_,kp⟩)
 all_goals simp_all
 all_goals rfl
theorem xd (x y:Edge)(h:x=y)(w:World):Calls Tryz.prog 143 #[.agg #[.int .u8 x.tag,.int .u32 x.to],.agg #[.int .u8 y.tag,.int .u32 y.to]] w fun e w'=>e=.returned (.bool true)∧ae w w':=by
 have:=qE x y w;rwa[bc h]at this
theorem xc (x y:Edge)(h:¬x=y)(w:World):Calls Tryz.prog 143 #[.agg #[.int .u8 x.tag,.int .u32 x.to],.agg #[.int .u8 y.tag,.int .u32 y.to]] w fun e w'=>e=.returned (.bool false)∧ae w w':=by
 have:=qE x y w;rwa[aY h]at this
theorem sP (x y:Edge)(w:World) :
  Calls Tryz.prog 144 #[.agg #[.int .u8 x.tag,.int .u32 x.to],.agg #[.int .u8 y.tag,.int .u32 y.to]] w fun e w'=>e=.returned (.bool (decide (x=y)))∧ae w w':=by
 obtain⟨a,b⟩:=x
 obtain⟨c,d⟩:=y
 go_enter Tryz.func144,Tryz.ntmps144
 go_wp2
 all_goals(go_ret;refine⟨?_,kp⟩)
 all_goals simp_all
 all_goals rfl
theorem sQ (x y:Edge)(h:x=y)(w:World):Calls Tryz.prog 144 #[.agg #[.int .u8 x.tag,.int .u32 x.to],.agg #[.int .u8 y.tag,.int .u32 y.to]] w fun e w'=>e=.returned (.bool true)∧ae w w':=by
 have:=sP x y w;rwa[bc h]at this
theorem A4 (x y:Edge)(h:¬x=y)(w:World):Calls Tryz.prog 144 #[.agg #[.int .u8 x.tag,.int .u32 x.to],.agg #[.int .u8 y.tag,.int .u32 y.to]] w fun e w'=>e=.returned (.bool false)∧ae w w':=by
 have:=sP x y w;rwa[aY h]at this
end Go.Proofs.YtafkamlhimkbmaaGreat
