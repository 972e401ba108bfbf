/-
  ramageref17.Table over the state: the table of what an edge means.
-/
import Derived.Test.YtafkamlhimkbmaaGreatPKB
import Derived.Test.YtafkamlhimkbmaaGreatPMeansA
import Derived.Maps.OwnSet
import Derived.Maps.Keyed
import Derived.DeepKeys4
namespace Go.Proofs.YtafkamlhimkbmaaGreat
set_option maxRecDepth 1000000
set_option maxHeartbeats 8000000
set_option linter.unusedSimpArgs false
set_option linter.unusedVariables false
open Go.RowKit

def rv:Nat→Nat→Nat→Int
 |_,0,_=>0
 |y,k+1,m=>(if y / 2 ^ k%2=1 then 2 ^ m else 0)+rv (y%2 ^ k) k (m+1)

theorem A6 {g:Int→Bool}:∀(k m:Nat) (x:Int) (y:Nat),y<2 ^ k→(de g k m x)[y]?=some (g (x+rv y k m)):=by
 intro k;induction k with
 |zero=>
  intro m x y j;have:y=0:=by simpa using j
  subst this;show some (g x)=some (g (x+0));rw[Int.add_zero]
 |succ k s=>
  intro m x y j;have t:0<2 ^ k:=Nat.pow_pos (by decide);have j:2 ^ (k+1)=2 ^ k+2 ^ k:=by rw[Nat.pow_succ];omega
  show(de g k (m+1) x++de g k (m+1) (x+2 ^ m))[y]?=some (g (x+((if y / 2 ^ k%2=1 then 2 ^ m else 0)+rv (y%2 ^ k) k (m+1))));have j:=rK g k (m+1) x;by_cases h:y<2 ^ k;·rw[List.getElem?_append_left (by rw[j];exact h),s _ _ _ h,Nat.div_eq_of_lt h,Nat.mod_eq_of_lt h,if_neg (by decide),Int.zero_add]
  ·have q:y / 2 ^ k=1:=by
    rw[Nat.div_eq_iff t];omega
   have t:y%2 ^ k=y-2 ^ k:=by
    have:=Nat.div_add_mod y (2 ^ k);rw[q]at this;omega
   rw[List.getElem?_append_right (by rw[j];omega),j,s _ _ _ (by omega),q,t,if_pos (by decide),Int.add_assoc]

theorem tA (y k:Nat):ao (y:Int) (k:Int)=decide (y / 2 ^ k%2=1):=by
 unfold ao;rw[Int.toNat_natCast];congr 1
 have:(y:Int) / 2 ^ k%2=((y / 2 ^ k%2:Nat):Int):=by push_cast;rfl
 rw[this];exact propext ⟨fun h=>by exact_mod_cast h,fun h=>by exact_mod_cast h⟩

theorem xr:laidOutB Tryz.prog=true:=by kernel_rfl

theorem B4:2≤Tryz.prog.types.size:=of_decide_eq_true (by kernel_rfl)

theorem B3:∃d,Tryz.prog.types.size=d+2:=⟨Tryz.prog.types.size-2,by have:=B4;omega⟩

def dJ (x:Edge):DataW Unit:=.agg [.lit (.int .u8 x.tag),.lit (.int .u32 x.to)]

def gL (v:Value):Option (DataW Unit×List MemPlace):=
 match v with
 |.agg a=>match a.toList with
  |[.int .u8 j,.int .u32 n]=>some (dJ ⟨j,n⟩,[])
  |_=>none
 |_=>none

theorem pb (x:Edge):gL (.agg #[.int .u8 x.tag,.int .u32 x.to])=some (dJ x,[]):=rfl

theorem o9 {x y:Edge}(h:dJ x=dJ y):x=y:=by
 unfold dJ at h;cases x;cases y;simp at h;obtain⟨a,b⟩:=h;subst a b;rfl

theorem uX {v:Value}{x:Edge}{ps:List MemPlace}(h:gL v=some (dJ x,ps)):v=.agg #[.int .u8 x.tag,.int .u32 x.to]:=by
 unfold gL at h;split at h
 ·rename_i a;split at h
  ·rename_i s n q;have j:=o9 (congrArg Prod.fst (Option.some.inj h));subst j;show Value.agg a=.agg #[.int .u8 s,.int .u32 n];congr 1
   exact Array.toList_inj.1 q
  ·cases h
 ·cases h

theorem CT (w:World):(zeroValue 52).run Tryz.prog w=.ok (.agg #[.int .u8 (⟨0,0⟩:Edge).tag,.int .u32 (⟨0,0⟩:Edge).to]) w:=by kernel_rfl

theorem kD {M:St}{f l:Int}{lo hi:Edge}(q:1≤f∧f≤5):dC M f l lo hi=ak f M l lo hi:=by
 have j:f=1∨f=2∨f=3∨f=4∨f=5:=by omega
 rcases j with rfl|rfl|rfl|rfl|rfl<;>rfl

theorem kQ {f:Int}{M:St}{l:Int}{lo hi:Edge}(h:M.wf)(q:M.cs.length≤1048576)(s:lo.ok)(A:hi.ok)(t:0≤l)(z:l≤255)(E:1≤f∧f≤5):(aH f M (ak f M l lo hi)).ok:=by
 have j:f=1∨f=2∨f=3∨f=4∨f=5:=by omega
 rcases j with rfl|rfl|j|j|j
 ·rw[fe];show(dA M _).ok;unfold al bY;repeat' split
  all_goals first|exact dQ|exact s|exact ie h q 0 (by omega) _
 ·rw[ff];show(dA M _).ok;unfold al cr;repeat' split
  all_goals first|exact dQ|exact s|exact ie h q 0 (by omega) _
 ·have e:ak f M l lo hi=cG f M l lo hi:=by subst j;rfl
  rw[e];exact mQ h q s A t z (.inl j)
 ·have e:ak f M l lo hi=cG f M l lo hi:=by subst j;rfl
  rw[e];exact mQ h q s A t z (.inr (.inl j))
 ·have e:ak f M l lo hi=cG f M l lo hi:=by subst j;rfl
  rw[e];exact mQ h q s A t z (.inr (.inr j))

theorem mC {f:Int}(q:1≤f∧f≤5){M:St}{e:Edge}{l:Int}:eB M f e l=af M f e l:=by
 have j:f=1∨f=2∨f=3∨f=4∨f=5:=by omega
 rcases j with rfl|rfl|rfl|rfl|rfl<;>rfl

theorem gF {F:Nat→Prop}{w0 wc q:World}{fn:FuncId}{args:Array Value}{Q:Ending→World→Prop}{R:World→Prop}(A:∀k,F k→k<w0.heap.size)(E:w0.heap.size≤wc.heap.size)
  (h:Calls Tryz.prog fn args q fun r w'=>Q r w'∧ae F q w'∧R w') :
  Calls Tryz.prog fn args q fun r w'=>(Q r w'∧ae F q w'∧R w')∧(∀j o,wc.heap.size≤j→j<q.heap.size→w'.cell? ⟨j,o,none⟩=q.cell? ⟨j,o,none⟩)∧(∀j o,wc.heap.size≤j→j<q.heap.size→w'.frozen? ⟨j,o,none⟩=q.frozen? ⟨j,o,none⟩)∧(∀j,j<q.heap.size→j<w'.heap.size)∧(∀j,j<q.heap.size→¬j=w'.heap.size)∧(∀j,j<q.heap.size→¬w'.heap.size=j):=by
 refine h.mono fun r w' s=>⟨s,fun j o q t=>?_,fun j o q t=>?_,fun j q=>by have:=s.2.1.size;omega,fun j q=>by have:=s.2.1.size;omega,fun j q=>by have:=s.2.1.size;omega⟩
 ·have:=s.2.1.block j t (fun z=>by have:=A _ z;omega);simp only[World.cell?,this]
 ·exact World.frozen?_of_block (a:=⟨j,o,none⟩) (s.2.1.block j t (fun z=>by have:=A _ z;omega))

structure fN (F:Nat→Prop)(w0 wy:World)(sb:Nat)(M1:St)(B C:Nat)(lo hi:Edge)(F1:Nat→Prop):Prop where
 a0:wy.cell? ⟨B,0,none⟩=some (.int .u8 lo.tag)
 a1:wy.cell? ⟨B,1,none⟩=some (.int .u32 lo.to)
 c0:wy.cell? ⟨C,0,none⟩=some (.int .u8 hi.tag)
 c1:wy.cell? ⟨C,1,none⟩=some (.int .u32 hi.to)
 av:ae F w0 wy
 a4:ag F1 wy sb M1
 sub:∀j,F1 j→F j∨w0.heap.size≤j
 nB:¬F1 B
 nC:¬F1 C
 gB:w0.heap.size≤B
 gC:w0.heap.size≤C

theorem ae.b9 {F G:Nat→Prop}{a b c:World}(h:ae F a b)(k:ae G b c)(q:∀i,i<a.heap.size→G i→F i):ae F a c:=
 ⟨k.os.trans h.os,k.tape.trans h.tape,k.output.trans h.output,Nat.le_trans h.size k.size,fun i hi j=>(k.block i (Nat.lt_of_lt_of_le hi h.size) (fun s=>j (q i hi s))).trans (h.block i hi j)⟩

theorem iK {F:Nat→Prop}{w0 q j t:World}{sb:Nat}{I:St}{B C:Nat}{lo hi:Edge}(T:∀k,F k→k<w0.heap.size)(K:aa w0 q)(U:ae F q j)(hS:ag (au F q j) j sb I)(J:ae (fun k=>k=B∨k=C) j t)
  (A:w0.heap.size≤B∧(B<q.heap.size∨j.heap.size≤B)) (E:w0.heap.size≤C∧(C<q.heap.size∨j.heap.size≤C)) (a0:t.cell? ⟨B,0,none⟩=some (.int .u8 lo.tag)) (N:t.cell? ⟨B,1,none⟩=some (.int .u32 lo.to))
  (O:t.cell? ⟨C,0,none⟩=some (.int .u8 hi.tag)) (S:t.cell? ⟨C,1,none⟩=some (.int .u32 hi.to)):fN F w0 t sb I B C lo hi (au F q j):=by
 have t:=K.size
 have no:∀t,(w0.heap.size≤t∧(t<q.heap.size∨j.heap.size≤t))→¬au F q j t:=fun t j s=>by
  rcases s with s|s;·have:=T _ s;omega
  ·omega
 refine⟨a0,N,O,S,((aa.av K F).a' U).b9 J (fun i hi s=>?_),hS.a5 J (fun k L s=>?_),fun j z=>?_,no B A,no C E,A.1,E.1⟩
 ·rcases s with rfl|rfl<;>omega
 ·rcases s with rfl|rfl;·exact no _ A L
  ·exact no _ E L
 ·rcases z with z|z;·exact .inl z
  ·exact .inr (by omega)

section
variable {F:Nat→Prop}{w:World}{sb wb b:Nat}{f g:Int}{M:St}{V:List (Edge×Int)}{D:DataW Unit}

theorem jU {R:Nat}{x y:World}(h:ae (fun j=>j=R) x y)(o:Nat)(v:Value):ae (fun j=>j=R) x (y.setCell ⟨R,o,none⟩ v):=h.setCell (Or.inl rfl) v

theorem vu {M:St}(h:M.wf)(r:Rec):az M (M.a6 r):=by
 cases hi:M.b4 r with
 |some id=>
  rw[(jw h (jA hi)).2.2];exact az.refl M
 |none=>
  cases j:M.bq r with
  |true=>
   have:M.a6 r=M:=(by unfold St.a6;rw[hi];simp[j]);rw[this];exact az.refl M
  |false=>
   by_cases q:M.a7 r=0;·exact(iL h j q).2.1
   ·rw[(kv j q).2.1];exact az.refl M

theorem sv {M:St}(h:M.wf)(a:(Edge×Int) ⊕ Rec):az M (aR M a):=by
 cases a with
 |inl x=>exact az.refl M
 |inr r=>exact vu h r

end

def bJ (w:World)(g:Nat)(es:List Edge):Prop:=∃j:Array Value,w.heap[g]?=some (.cells j 52 (0,0))∧∀(i:Nat) (e:Edge),es[i]?=some e→j[i*2]?=some (Value.int .u8 e.tag)∧j[i*2+1]?=some (Value.int .u32 e.to)

theorem bJ.cell {w:World}{g:Nat}{es:List Edge}(h:bJ w g es){i:Nat}{e:Edge}(s:es[i]?=some e):w.cell? ⟨g,i*2,none⟩=some (.int .u8 e.tag)∧w.cell? ⟨g,i*2+1,none⟩=some (.int .u32 e.to):=by
 obtain⟨t,j,q⟩:=h;obtain⟨a,b⟩:=q i e s;exact⟨by rw[cell_of_row w g _ _ _ _ j];simp only[a],by rw[cell_of_row w g _ _ _ _ j];simp only[b]⟩

theorem bJ.frozen {w:World}{g:Nat}{es:List Edge}(h:bJ w g es)(i:Nat):w.frozen? ⟨g,i,none⟩=false:=by
 obtain⟨q,j,s⟩:=h;exact frozen_of_row w g i _ _ j

theorem bJ.lt {w:World}{g:Nat}{es:List Edge}(h:bJ w g es):g<w.heap.size:=by
 obtain⟨q,j,s⟩:=h;exact aN j

theorem bJ.a5 {G:Nat→Prop}{w w':World}{g:Nat}{es:List Edge}(h:bJ w g es)(A:ae G w w')(t:¬G g):bJ w' g es:=by
 have z:=h.lt;obtain⟨j,q,s⟩:=h;exact⟨j,(A.block g z t).trans q,s⟩

theorem bJ.U {w w':World}{g:Nat}{es:List Edge}(h:bJ w g es)(j:aa w w'):bJ w' g es:=h.a5 (j.av (fun _=>False)) (fun h=>h)

theorem bJ.at {w:World}{g:Nat}{es:List Edge}(h:bJ w g es)(q:∀e∈es,e.ok):sq w (some ⟨g,0,none⟩) es:=fun i e j=>⟨q e (List.mem_of_getElem? j),g,0,rfl,by rw[Nat.zero_add];exact(h.cell j).1,by rw[Nat.zero_add];exact(h.cell j).2⟩

theorem bJ.set {w:World}{g:Nat}{es:List Edge}(h:bJ w g es)(i:Nat)(e:Edge)(hi:i<es.length):bJ ((w.setCell ⟨g,i*2,none⟩ (.int .u8 e.tag)).setCell ⟨g,i*2+1,none⟩ (.int .u32 e.to)) g (es.set i e):=by
 obtain⟨A,z,q⟩:=h;have A:=Go.heap_setCell_same w g (i*2) _ _ (.int .u8 e.tag) z;refine⟨_,Go.heap_setCell_same _ g (i*2+1) _ _ (.int .u32 e.to) A,fun t x j=>?_⟩;obtain⟨a,b⟩:=q i es[i] (by simp[hi]);have E:=(Array.getElem?_eq_some_iff.1 a).1;have I:=(Array.getElem?_eq_some_iff.1 b).1;by_cases s:i=t
 ·subst s;simp[hi]at j;subst j;constructor;·rw[Array.getElem?_setIfInBounds,if_neg (by omega),Array.getElem?_setIfInBounds,if_pos rfl,if_pos E]
  ·rw[Array.getElem?_setIfInBounds,if_pos rfl,if_pos (by simpa using I)]
 ·rw[List.getElem?_set_ne s]at j;obtain⟨c,d⟩:=q t x j;constructor
  ·rw[Array.getElem?_setIfInBounds,if_neg (by omega),Array.getElem?_setIfInBounds,if_neg (by omega)];exact c
  ·rw[Array.getElem?_setIfInBounds,if_neg (by omega),Array.getElem?_setIfInBounds,if_neg (by omega)];exact d

theorem pG:(Tryz.prog.info? 52).map (fun i=>(i.zero,i.size,i.bytes))=some (some (.agg #[.int .u8 0,.int .u32 0]),2,8):=by kernel_rfl

theorem qO {w:World}{s n:Nat}(h:w.ownsRow s 52 2 (.slice (some ⟨s,0,none⟩) n n) n (madeCells (Value.agg #[.int .u8 0,.int .u32 0]).cells (n*2)).toList):bJ w s (List.replicate n ⟨0,0⟩):=by
 obtain⟨N,O⟩:=bM h (k:=s) rfl;rcases h.2 with⟨E,_⟩|⟨N,s,t,L,O,J,_,_,S,K⟩
 ·cases E
 ·cases L
  have key:∀j,j<n*2→t[j]?=some (if j%2=0 then Value.int .u8 0 else Value.int .u32 0):=fun j A=>by
   have z:(madeCells (Value.agg #[.int .u8 0,.int .u32 0]).cells (n*2)).toList[j]?=some (if j%2=0 then Value.int .u8 0 else Value.int .u32 0):=by
    simp[madeCells,Value.cells,A];rcases Nat.mod_two_eq_zero_or_one j with q|q;·rw[q];rfl
    ·rw[q];rfl
   rw[←K,List.getElem?_take,if_pos A,Array.getElem?_toList]at z;exact z
  refine⟨t,J,fun i e j=>?_⟩;have hi:i<n:=by simpa using(List.getElem?_eq_some_iff.1 j).1
  have I:e=⟨0,0⟩:=by
   rw[List.getElem?_replicate,if_pos hi]at j;exact(Option.some.inj j).symm
  subst I;constructor;·rw[key _ (by omega),if_pos (by omega)]
  ·rw[key _ (by omega),if_neg (by omega)]

open Go.ChangeShapes Go.WideShapes Go.ChangeAt Go.RowKit

def lL (w:World)(a:Option Addr)(len:Nat)(ps:List Int):Prop:=ps.length=len∧aG w a ps∧∀x∈ps,(Lit.int .i64 x).wf=true

theorem qv {H:Type}{enc:TypeId×Value→H}{t:World}{I:Nat}{K:Nat→Bool}{held:Bool}{a:Option Addr}{len cap:Nat}{d:DataW H}{p:List MemPlace}
  (h:DataW.Trod enc Tryz.prog t I K held 22 (.slice a len cap) d p):∃ps:List Int,lL t a len ps:=by
 obtain⟨rs,j,q⟩:=qw (k:=1) (fun(r:Int) cs=>(Lit.int .i64 r).wf=true∧cs=[.int .i64 r]) Tryz.underlying22 (by kernel_rfl) (by decide) (fun n cs x s=>by
  obtain⟨r,j,_,q⟩:=DataW.trod_int Tryz.underlying3 s
  exact⟨by rw[j];rfl,r,q,j⟩) h
 refine⟨rs,j,fun i r J=>?_,fun x s=>?_⟩
 ·obtain⟨b,off,cs,z,⟨E,rfl⟩,A⟩:=q i r J;have:=A 0 (by decide);rw[Nat.mul_one,Nat.add_zero]at this;exact⟨b,off,z,this⟩
 ·obtain⟨i,hi⟩:=List.mem_iff_getElem?.1 s;obtain⟨b,off,cs,z,⟨E,rfl⟩,A⟩:=q i x hi;exact E

instance:Inhabited (Int×Edge):=⟨(0,Edge.zero)⟩

noncomputable def dX (M:St):List (Int×Edge)→Int
 |[]=>0
 |r::rs=>if bG r.1=false then 4 else if gP M r.1 r.2 0=false then 1 else dX M rs

theorem qi (M:St)(r:Int×Edge)(rs:List (Int×Edge)):dX M (r::rs)=if bG r.1=false then 4 else if gP M r.1 r.2 0=false then 1 else dX M rs:=rfl

theorem lq {F:Nat→Prop}{w:World}{sb:Nat}{M:St}(h:ag F w sb M)(a:Option Addr)(cap:Nat)(rs:List (Int×Edge))(am:dz w a rs)(a3:rs.length≤1048576) :
  Calls Tryz.prog 49 #[.pointer (some ⟨sb,0,none⟩),.slice a rs.length cap] w fun e w'=>e=.returned (.int .u8 (dX M rs))∧aa w w':=by
 have av:=Lib.hid (fun(f:Int) (v:Edge) (a5:v.ok) (K:World) (ab:aa w K)=>oW (h.U ab) f v 0 a5)
 obtain⟨z,Z⟩:∃z,z=rs.length:=⟨_,rfl⟩
 rw[←Z]at a3 ⊢
 have aw:=Lib.hid am
 have ad:=Lib.hid Z
 clear h am Z
 go_enter Tryz.func49,Tryz.ntmps49
 go_wp2
 go_loopg [9] z (fun gk Z wr=>∃d:Nat,Z=.int .i64 (d:Int)∧d+gk=z∧dX M (rs.drop d)=dX M rs∧aa w wr)
 case atStart=>exact⟨0,rfl,by omega,rfl,by(exact kp)⟩
 case round=>
  obtain⟨d,rfl,Z,j,O⟩:=hrel;have U:=Lib.hid j;clear j;by_cases a4:d<z
  ·obtain⟨r,I⟩:∃b,rs[d]?=some b:=⟨_,List.getElem?_eq_getElem (by rw[←ad.out];exact a4)⟩;obtain⟨a1,E,b,off,rfl,W,X,Y⟩:=aw.out d r I;replace W:=O.cell W;replace X:=O.cell X;replace Y:=O.cell Y
   have N:rs.drop d=r::rs.drop (d+1):=by
    obtain⟨hi,z⟩:=List.getElem?_eq_some_iff.1 I;rw[List.drop_eq_getElem_cons hi,z]
   have j:=U.out;rw[N]at j;rw[qi]at j;obtain⟨f,e⟩:=r;have q:=ik f;have s:=fun(K:World) (ab:aa w K)=>av.out f e E K ab;dsimp only at a1 E W X Y j;cases A:bG f with
   |false=>
    rw[A]at q j;have J:=Lib.hid q;have t:Hid (dX M rs=4):=Lib.hid (by rw[←j];simp);clear j q s N I E A;go_wp2_with (first|(go_at_call 100;refine(J.out _).mono ?_;rintro L w' ⟨rfl,rfl⟩)|fail)
    go_ret
    exact⟨by rw[t.out];rfl,by(exact kp)⟩
   |true=>
    rw[A]at q j;have J:=Lib.hid q;cases S:gP M f e 0 with
    |false=>
     rw[S]at s j;have T:=Lib.hid s;have t:Hid (dX M rs=1):=Lib.hid (by rw[←j];simp);clear j q s N I E A S;go_wp2_with (first|(go_at_call 100;refine(J.out _).mono ?_;rintro L w' ⟨rfl,rfl⟩)|(go_at_call 92;refine(T.out _ (by(exact kp))).mono ?_;rintro L a6 ⟨rfl,a2⟩)|fail)
     go_ret
     exact⟨by rw[t.out];rfl,by(exact kp)⟩
    |true=>
     rw[S]at s j;have T:=Lib.hid s;have t:Hid (dX M (rs.drop (d+1))=dX M rs):=Lib.hid (by rw[←j];simp);clear j q s N I E A S;go_wp2_with (first|(go_at_call 100;refine(J.out _).mono ?_;rintro L w' ⟨rfl,rfl⟩)|(go_at_call 92;refine(T.out _ (by(exact kp))).mono ?_;rintro L a6 ⟨rfl,a2⟩)|fail)
     go_roundg (gk-1)
     case rel=>exact⟨d+1,by simp,by omega,t.out,by(exact kp)⟩
     case measure=>omega
  ·have t:Hid (dX M rs=0):=Lib.hid (by rw[←U.out,List.drop_of_length_le (by rw[←ad.out];omega)];rfl);clear U;go_wp2_with fail
   go_ret
   exact⟨by rw[t.out];rfl,O⟩

theorem qZ {F Fo:Nat→Prop}{w:World}{sb z:Nat}{M:St}{ps:List Int}(h:ag F w sb M)(I:bC Fo w z ps) :
  Calls Tryz.prog 47 #[.pointer (some ⟨sb,0,none⟩),.pointer (some ⟨z,0,none⟩)] w fun e w'=>e=.returned (.int .u8 (if M.n=(ps.length:Int)then 0 else 1))∧aa w w':=by
 have t:=Lib.hid (fun(z:World) (E:aa w z)=>dw (h.U E))
 have s:=Lib.hid (fun(z:World) (E:aa w z)=>kW (I.U E))
 have L:=h.wf.n0
 have N:=h.wf.bw
 have O:=I.le
 obtain⟨j,J⟩:∃j,j=ps.length:=⟨_,rfl⟩
 obtain⟨n,K⟩:∃n,n=M.n:=⟨_,rfl⟩
 rw[←J]at s O ⊢
 rw[←K]at t L N ⊢
 clear h I J K
 by_cases q:n=(j:Int)
 ·rw[if_pos q];subst q;go_enter Tryz.func47,Tryz.ntmps47
  go_wp2_with (first|(go_at_call 48;refine(t.out _ (by(exact kp))).mono ?_;rintro A w' ⟨rfl,rfl⟩)|(go_at_call 99;refine(s.out _ (by(exact kp))).mono ?_;rintro A w' ⟨rfl,rfl⟩)|fail)
  go_ret
  exact⟨rfl,by(exact kp)⟩
 ·rw[if_neg q];have z:(n !=(j:Int))=true:=by simp[q]
  go_enter Tryz.func47,Tryz.ntmps47
  go_wp2_with (first|(go_at_call 48;refine(t.out _ (by(exact kp))).mono ?_;rintro A w' ⟨rfl,rfl⟩)|(go_at_call 99;refine(s.out _ (by(exact kp))).mono ?_;rintro A w' ⟨rfl,rfl⟩)|fail)
  go_ret
  exact⟨rfl,by(exact kp)⟩

def gW (w:World)(a:Option Addr)(len:Nat)(ws:List (Int×Int)):Prop:=
 ws.length=len∧∀i x,ws[i]?=some x→(0≤x.1∧x.1≤255)∧(0≤x.2∧x.2≤18446744073709551615)∧∃b off,a=some ⟨b,off,none⟩∧w.cell? ⟨b,off+i*2,none⟩=some (.int .u8 x.1)∧w.cell? ⟨b,off+i*2+1,none⟩=some (.int .u64 x.2)

theorem gW.U {w w':World}{a:Option Addr}{len:Nat}{ws:List (Int×Int)}(h:gW w a len ws)(j:aa w w'):gW w' a len ws:=
 ⟨h.1,fun i x E=>by
  obtain⟨t,z,b,off,A,q,s⟩:=h.2 i x E
  exact⟨t,z,b,off,A,j.cell q,j.cell s⟩⟩

instance:Inhabited (Int×Int):=⟨(0,0)⟩

theorem CH {x:Int}(h:(Lit.int .u64 x).wf=true):0≤x∧x≤18446744073709551615:=by
 unfold Lit.wf at h;simp only[Bool.and_eq_true,decide_eq_true_eq]at h;exact h

theorem CG {H:Type}{enc:TypeId×Value→H}{J:World}{K:Nat}{N:Nat→Bool}{held:Bool}{n:Nat}{cs:List Value}{x:DataW H×List MemPlace}
  (h:DataW.trod enc Tryz.prog J K N held n 98 cs=some x):∃r:Int×Int,((0≤r.1∧r.1≤255)∧(0≤r.2∧r.2≤18446744073709551615))∧cs=[.int .u8 r.1,.int .u64 r.2]:=by
 obtain⟨xs,m,_,_,A,L,z⟩:=DataW.trod_struct Tryz.underlying98 h
 have J:Tryz.prog.cellsOf 98=2:=by kernel_rfl
 have I:Tryz.prog.cellsOf 5=1:=by kernel_rfl
 have E:Tryz.prog.cellsOf 56=1:=by kernel_rfl
 rw[J]at A
 have j:=z 0 _ rfl
 have q:=z 1 _ rfl
 rw[List.getElem?_eq_getElem (by rw[L];decide)]at j q
 obtain⟨a,s,_,O⟩:=DataW.trod_int Tryz.underlying5 j
 obtain⟨b,t,_,wb⟩:=DataW.trod_int Tryz.underlying56 q
 match cs,A with
 |[j,q],_=>
  simp[I,E]at s t;refine⟨(a,b),⟨wf_u8 O,CH wb⟩,?_⟩;rw[s,t]

theorem qx {H:Type}{enc:TypeId×Value→H}{s:World}{z:Nat}{J:Nat→Bool}{held:Bool}{a:Option Addr}{len cap:Nat}{d:DataW H}{p:List MemPlace}
  (h:DataW.Trod enc Tryz.prog s z J held 23 (.slice a len cap) d p):∃ws:List (Int×Int),gW s a len ws:=by
 obtain⟨rs,q,j⟩:=qw (k:=2) (fun(r:Int×Int) cs=>((0≤r.1∧r.1≤255)∧(0≤r.2∧r.2≤18446744073709551615))∧cs=[.int .u8 r.1,.int .u64 r.2]) Tryz.underlying23 (by kernel_rfl) (by decide) (fun n cs x I=>by
  obtain⟨r,q,j⟩:=CG I
  exact⟨by rw[j];rfl,r,q,j⟩) h
 refine⟨rs,q,fun i r E=>?_⟩
 obtain⟨b,off,cs,A,⟨t,rfl⟩,q⟩:=j i r E
 have j:=q 0 (by decide)
 rw[Nat.add_zero]at j
 exact⟨t.1,t.2,b,off,A,j,q 1 (by decide)⟩

end Go.Proofs.YtafkamlhimkbmaaGreat
