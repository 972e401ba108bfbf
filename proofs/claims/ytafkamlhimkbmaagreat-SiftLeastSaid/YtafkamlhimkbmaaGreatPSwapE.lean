/-
  ramageref05.Value, ramageref17.Is, ramageref17.May; the rounds of ramageref17.Holds where a level is left out.
-/
import Derived.Test.YtafkamlhimkbmaaGreatPKB
import Derived.Test.YtafkamlhimkbmaaGreatPMeansA
import Derived.Maps.OwnSet
import Derived.Maps.Keyed
import Derived.DeepKeys4
namespace Go.Proofs.YtafkamlhimkbmaaGreat
set_option maxRecDepth 1000000
set_option maxHeartbeats 8000000
set_option linter.unusedSimpArgs false
set_option linter.unusedVariables false
open Go.RowKit

def jk (b:Bool):Int:=if b then 1 else 0

theorem jO (x k:Int)(w:World)(j:0≤x)(N:x≤65535)(K:0≤k)(L:k≤16) :
  Calls Tryz.prog 43 #[.int .i64 x,.int .i64 k] w fun e E=>e=.returned (.int .i64 (jk (an x k)))∧w=E:=by
 obtain⟨n,rfl⟩:∃n:Nat,k=(n:Int):=⟨k.toNat,by omega⟩
 have q:=Lib.hid (qC n (by omega) w)
 have z:2 ^ n≤2 ^ 16:=Nat.pow_le_pow_right (by decide) (by omega)
 have J:0<2 ^ n:=Nat.pow_pos (by decide)
 have I:(2:Nat) ^ 16=65536:=rfl
 have A:jk (an x n)=x / ((2 ^ n:Nat):Int)%2:=by
  unfold jk an;have s:((2 ^ n:Nat):Int)=2 ^ (n:Int).toNat:=by push_cast;rfl
  rw[s];by_cases h:x / 2 ^ (n:Int).toNat%2=1;·rw[decide_eq_true h,h];rfl
  ·rw[decide_eq_false h];show(0:Int)=_;omega
 rw[A]
 obtain⟨p,t⟩:∃p,p=2 ^ n:=⟨_,rfl⟩
 rw[←t]at q z J ⊢
 rw[I]at z
 clear t A
 have t:(p:Int)≠0:=by omega
 have t:((p:Int)==0)=false:=by simp;omega
 have s:x.tdiv (p:Int)=x / (p:Int):=Int.tdiv_eq_ediv_of_nonneg j
 have s:0≤x / (p:Int):=Int.ediv_nonneg j (by omega)
 have t:x / (p:Int)≤x:=Int.ediv_le_self _ j
 have j:(x / (p:Int)).tmod 2=x / (p:Int)%2:=Int.tmod_eq_emod_of_nonneg s
 go_enter Tryz.func43,Tryz.ntmps43
 go_wp2_with (first|(go_at_call 29;refine q.out.mono ?_;rintro e E ⟨rfl,rfl⟩)|fail)
 go_ret
 exact⟨by rfl,rfl⟩

def rv:Nat→Nat→Nat→Int
 |_,0,_=>0
 |y,k+1,m=>(if y / 2 ^ k%2=1 then 2 ^ m else 0)+rv (y%2 ^ k) k (m+1)

theorem AK {g:Int→Bool}:∀(k m:Nat) (x:Int) (y:Nat),y<2 ^ k→(dc g k m x)[y]?=some (g (x+rv y k m)):=by
 intro k;induction k with
 |zero=>
  intro m x y j;have:y=0:=by simpa using j
  subst this;show some (g x)=some (g (x+0));rw[Int.add_zero]
 |succ k s=>
  intro m x y j;have t:0<2 ^ k:=Nat.pow_pos (by decide);have j:2 ^ (k+1)=2 ^ k+2 ^ k:=by rw[Nat.pow_succ];omega
  show(dc g k (m+1) x++dc g k (m+1) (x+2 ^ m))[y]?=some (g (x+((if y / 2 ^ k%2=1 then 2 ^ m else 0)+rv (y%2 ^ k) k (m+1))));have j:=qV g k (m+1) x;by_cases h:y<2 ^ k;·rw[List.getElem?_append_left (by rw[j];exact h),s _ _ _ h,Nat.div_eq_of_lt h,Nat.mod_eq_of_lt h,if_neg (by decide),Int.zero_add]
  ·have q:y / 2 ^ k=1:=by
    rw[Nat.div_eq_iff t];omega
   have t:y%2 ^ k=y-2 ^ k:=by
    have:=Nat.div_add_mod y (2 ^ k);rw[q]at this;omega
   rw[List.getElem?_append_right (by rw[j];omega),j,s _ _ _ (by omega),q,t,if_pos (by decide),Int.add_assoc]

theorem sM (y k:Nat):an (y:Int) (k:Int)=decide (y / 2 ^ k%2=1):=by
 unfold an;rw[Int.toNat_natCast];congr 1
 have:(y:Int) / 2 ^ k%2=((y / 2 ^ k%2:Nat):Int):=by push_cast;rfl
 rw[this];exact propext ⟨fun h=>by exact_mod_cast h,fun h=>by exact_mod_cast h⟩

theorem wQ:laidOutB Tryz.prog=true:=by kernel_rfl

theorem BD:2≤Tryz.prog.types.size:=of_decide_eq_true (by kernel_rfl)

theorem BC:∃d,Tryz.prog.types.size=d+2:=⟨Tryz.prog.types.size-2,by have:=BD;omega⟩

def dE (x:Edge):DataW Unit:=.agg [.lit (.int .u8 x.tag),.lit (.int .u32 x.to)]

def gH (v:Value):Option (DataW Unit×List MemPlace):=
 match v with
 |.agg a=>match a.toList with
  |[.int .u8 j,.int .u32 n]=>some (dE ⟨j,n⟩,[])
  |_=>none
 |_=>none

theorem oM (x:Edge):gH (.agg #[.int .u8 x.tag,.int .u32 x.to])=some (dE x,[]):=rfl

theorem oL {x y:Edge}(h:dE x=dE y):x=y:=by
 unfold dE at h;cases x;cases y;simp at h;obtain⟨a,b⟩:=h;subst a b;rfl

theorem uv {v:Value}{x:Edge}{ps:List MemPlace}(h:gH v=some (dE x,ps)):v=.agg #[.int .u8 x.tag,.int .u32 x.to]:=by
 unfold gH at h;split at h
 ·rename_i a;split at h
  ·rename_i s n q;have j:=oL (congrArg Prod.fst (Option.some.inj h));subst j;show Value.agg a=.agg #[.int .u8 s,.int .u32 n];congr 1
   exact Array.toList_inj.1 q
  ·cases h
 ·cases h

theorem Cv (w:World):(zeroValue 52).run Tryz.prog w=.ok (.agg #[.int .u8 (⟨0,0⟩:Edge).tag,.int .u32 (⟨0,0⟩:Edge).to]) w:=by kernel_rfl

theorem kt {M:St}{f l:Int}{lo hi:Edge}(q:1≤f∧f≤5):dw M f l lo hi=aj f M l lo hi:=by
 have j:f=1∨f=2∨f=3∨f=4∨f=5:=by omega
 rcases j with rfl|rfl|rfl|rfl|rfl<;>rfl

theorem kH {f:Int}{M:St}{l:Int}{lo hi:Edge}(h:M.wf)(q:M.cs.length≤1048576)(s:lo.ok)(A:hi.ok)(t:0≤l)(z:l≤255)(E:1≤f∧f≤5):(aE f M (aj f M l lo hi)).ok:=by
 have j:f=1∨f=2∨f=3∨f=4∨f=5:=by omega
 rcases j with rfl|rfl|j|j|j
 ·rw[eV];show(dv M _).ok;unfold ak bT;repeat' split
  all_goals first|exact dL|exact s|exact ie h q 0 (by omega) _
 ·rw[eW];show(dv M _).ok;unfold ak bX;repeat' split
  all_goals first|exact dL|exact s|exact ie h q 0 (by omega) _
 ·have e:aj f M l lo hi=cB f M l lo hi:=by subst j;rfl
  rw[e];exact mw h q s A t z (.inl j)
 ·have e:aj f M l lo hi=cB f M l lo hi:=by subst j;rfl
  rw[e];exact mw h q s A t z (.inr (.inl j))
 ·have e:aj f M l lo hi=cB f M l lo hi:=by subst j;rfl
  rw[e];exact mw h q s A t z (.inr (.inr j))

theorem me {f:Int}(q:1≤f∧f≤5){M:St}{e:Edge}{l:Int}:eh M f e l=af M f e l:=by
 have j:f=1∨f=2∨f=3∨f=4∨f=5:=by omega
 rcases j with rfl|rfl|rfl|rfl|rfl<;>rfl

theorem gz {F:Nat→Prop}{w0 wc s:World}{fn:FuncId}{args:Array Value}{Q:Ending→World→Prop}{R:World→Prop}(E:∀k,F k→k<w0.heap.size)(I:w0.heap.size≤wc.heap.size)
  (h:Calls Tryz.prog fn args s fun r q=>Q r q∧ae F s q∧R q) :
  Calls Tryz.prog fn args s fun r q=>(Q r q∧ae F s q∧R q)∧(∀j o,wc.heap.size≤j→j<s.heap.size→q.cell? ⟨j,o,none⟩=s.cell? ⟨j,o,none⟩)∧(∀j o,wc.heap.size≤j→j<s.heap.size→q.frozen? ⟨j,o,none⟩=s.frozen? ⟨j,o,none⟩)∧(∀j,j<s.heap.size→j<q.heap.size)∧(∀j,j<s.heap.size→¬j=q.heap.size)∧(∀j,j<s.heap.size→¬q.heap.size=j):=by
 refine h.mono fun r q t=>⟨t,fun j o q z=>?_,fun j o q z=>?_,fun j q=>by have:=t.2.1.size;omega,fun j q=>by have:=t.2.1.size;omega,fun j q=>by have:=t.2.1.size;omega⟩
 ·have:=t.2.1.block j z (fun A=>by have:=E _ A;omega);simp only[World.cell?,this]
 ·exact World.frozen?_of_block (a:=⟨j,o,none⟩) (t.2.1.block j z (fun A=>by have:=E _ A;omega))

structure fE (F:Nat→Prop)(w0 wy:World)(sb:Nat)(M1:St)(B C:Nat)(lo hi:Edge)(F1:Nat→Prop):Prop where
 a0:wy.cell? ⟨B,0,none⟩=some (.int .u8 lo.tag)
 a1:wy.cell? ⟨B,1,none⟩=some (.int .u32 lo.to)
 c0:wy.cell? ⟨C,0,none⟩=some (.int .u8 hi.tag)
 c1:wy.cell? ⟨C,1,none⟩=some (.int .u32 hi.to)
 av:ae F w0 wy
 a5:ag F1 wy sb M1
 sub:∀j,F1 j→F j∨w0.heap.size≤j
 nB:¬F1 B
 nC:¬F1 C
 gB:w0.heap.size≤B
 gC:w0.heap.size≤C

theorem ae.b8 {F G:Nat→Prop}{a b c:World}(h:ae F a b)(k:ae G b c)(q:∀i,i<a.heap.size→G i→F i):ae F a c:=
 ⟨k.os.trans h.os,k.tape.trans h.tape,k.output.trans h.output,Nat.le_trans h.size k.size,fun i hi j=>(k.block i (Nat.lt_of_lt_of_le hi h.size) (fun s=>j (q i hi s))).trans (h.block i hi j)⟩

theorem iJ {F:Nat→Prop}{w0 q j t:World}{sb:Nat}{I:St}{B C:Nat}{lo hi:Edge}(T:∀k,F k→k<w0.heap.size)(K:aa w0 q)(U:ae F q j)(hS:ag (ao F q j) j sb I)(J:ae (fun k=>k=B∨k=C) j t)
  (A:w0.heap.size≤B∧(B<q.heap.size∨j.heap.size≤B)) (E:w0.heap.size≤C∧(C<q.heap.size∨j.heap.size≤C)) (a0:t.cell? ⟨B,0,none⟩=some (.int .u8 lo.tag)) (N:t.cell? ⟨B,1,none⟩=some (.int .u32 lo.to))
  (O:t.cell? ⟨C,0,none⟩=some (.int .u8 hi.tag)) (S:t.cell? ⟨C,1,none⟩=some (.int .u32 hi.to)):fE F w0 t sb I B C lo hi (ao F q j):=by
 have t:=K.size
 have no:∀t,(w0.heap.size≤t∧(t<q.heap.size∨j.heap.size≤t))→¬ao F q j t:=fun t j s=>by
  rcases s with s|s;·have:=T _ s;omega
  ·omega
 refine⟨a0,N,O,S,((aa.av K F).a' U).b8 J (fun i hi s=>?_),hS.a4 J (fun k L s=>?_),fun j z=>?_,no B A,no C E,A.1,E.1⟩
 ·rcases s with rfl|rfl<;>omega
 ·rcases s with rfl|rfl;·exact no _ A L
  ·exact no _ E L
 ·rcases z with z|z;·exact .inl z
  ·exact .inr (by omega)

section
variable {F:Nat→Prop}{w:World}{sb wb b:Nat}{f g:Int}{M:St}{V:List (Edge×Int)}{D:DataW Unit}

theorem jN {R:Nat}{x y:World}(h:ae (fun j=>j=R) x y)(o:Nat)(v:Value):ae (fun j=>j=R) x (y.setCell ⟨R,o,none⟩ v):=h.setCell (Or.inl rfl) v

theorem uL {M:St}(h:M.wf)(r:Rec):au M (M.a6 r):=by
 cases hi:M.b3 r with
 |some id=>
  rw[(jt h (jy hi)).2.2];exact au.refl M
 |none=>
  cases j:M.bp r with
  |true=>
   have:M.a6 r=M:=(by unfold St.a6;rw[hi];simp[j]);rw[this];exact au.refl M
  |false=>
   by_cases q:M.a7 r=0;·exact(iK h j q).2.1
   ·rw[(kh j q).2.1];exact au.refl M

theorem rL {M:St}(h:M.wf)(a:(Edge×Int) ⊕ Rec):au M (aM M a):=by
 cases a with
 |inl x=>exact au.refl M
 |inr r=>exact uL h r

end

def bL (w:World)(g:Nat)(es:List Edge):Prop:=∃j:Array Value,w.heap[g]?=some (.cells j 52 (0,0))∧∀(i:Nat) (e:Edge),es[i]?=some e→j[i*2]?=some (Value.int .u8 e.tag)∧j[i*2+1]?=some (Value.int .u32 e.to)

theorem bL.cell {w:World}{g:Nat}{es:List Edge}(h:bL w g es){i:Nat}{e:Edge}(s:es[i]?=some e):w.cell? ⟨g,i*2,none⟩=some (.int .u8 e.tag)∧w.cell? ⟨g,i*2+1,none⟩=some (.int .u32 e.to):=by
 obtain⟨t,j,q⟩:=h;obtain⟨a,b⟩:=q i e s;exact⟨by rw[cell_of_row w g _ _ _ _ j];simp only[a],by rw[cell_of_row w g _ _ _ _ j];simp only[b]⟩

theorem bL.frozen {w:World}{g:Nat}{es:List Edge}(h:bL w g es)(i:Nat):w.frozen? ⟨g,i,none⟩=false:=by
 obtain⟨q,j,s⟩:=h;exact frozen_of_row w g i _ _ j

theorem bL.lt {w:World}{g:Nat}{es:List Edge}(h:bL w g es):g<w.heap.size:=by
 obtain⟨q,j,s⟩:=h;exact aK j

theorem bL.a4 {G:Nat→Prop}{w j:World}{g:Nat}{es:List Edge}(h:bL w g es)(A:ae G w j)(t:¬G g):bL j g es:=by
 have z:=h.lt;obtain⟨j,q,s⟩:=h;exact⟨j,(A.block g z t).trans q,s⟩

theorem bL.U {w j:World}{g:Nat}{es:List Edge}(h:bL w g es)(q:aa w j):bL j g es:=h.a4 (q.av (fun _=>False)) (fun h=>h)

theorem bL.at {w:World}{g:Nat}{es:List Edge}(h:bL w g es)(q:∀e∈es,e.ok):rI w (some ⟨g,0,none⟩) es:=fun i e j=>⟨q e (List.mem_of_getElem? j),g,0,rfl,by rw[Nat.zero_add];exact(h.cell j).1,by rw[Nat.zero_add];exact(h.cell j).2⟩

theorem bL.set {w:World}{g:Nat}{es:List Edge}(h:bL w g es)(i:Nat)(e:Edge)(hi:i<es.length):bL ((w.setCell ⟨g,i*2,none⟩ (.int .u8 e.tag)).setCell ⟨g,i*2+1,none⟩ (.int .u32 e.to)) g (es.set i e):=by
 obtain⟨A,z,q⟩:=h;have A:=Go.heap_setCell_same w g (i*2) _ _ (.int .u8 e.tag) z;refine⟨_,Go.heap_setCell_same _ g (i*2+1) _ _ (.int .u32 e.to) A,fun t x j=>?_⟩;obtain⟨a,b⟩:=q i es[i] (by simp[hi]);have E:=(Array.getElem?_eq_some_iff.1 a).1;have I:=(Array.getElem?_eq_some_iff.1 b).1;by_cases s:i=t
 ·subst s;simp[hi]at j;subst j;constructor;·rw[Array.getElem?_setIfInBounds,if_neg (by omega),Array.getElem?_setIfInBounds,if_pos rfl,if_pos E]
  ·rw[Array.getElem?_setIfInBounds,if_pos rfl,if_pos (by simpa using I)]
 ·rw[List.getElem?_set_ne s]at j;obtain⟨c,d⟩:=q t x j;constructor
  ·rw[Array.getElem?_setIfInBounds,if_neg (by omega),Array.getElem?_setIfInBounds,if_neg (by omega)];exact c
  ·rw[Array.getElem?_setIfInBounds,if_neg (by omega),Array.getElem?_setIfInBounds,if_neg (by omega)];exact d

theorem o7:(Tryz.prog.info? 52).map (fun i=>(i.zero,i.size,i.bytes))=some (some (.agg #[.int .u8 0,.int .u32 0]),2,8):=by kernel_rfl

theorem qm {w:World}{s n:Nat}(h:w.ownsRow s 52 2 (.slice (some ⟨s,0,none⟩) n n) n (madeCells (Value.agg #[.int .u8 0,.int .u32 0]).cells (n*2)).toList):bL w s (List.replicate n ⟨0,0⟩):=by
 obtain⟨N,O⟩:=bJ h (k:=s) rfl;rcases h.2 with⟨E,_⟩|⟨N,s,t,L,O,J,_,_,S,K⟩
 ·cases E
 ·cases L
  have key:∀j,j<n*2→t[j]?=some (if j%2=0 then Value.int .u8 0 else Value.int .u32 0):=fun j A=>by
   have z:(madeCells (Value.agg #[.int .u8 0,.int .u32 0]).cells (n*2)).toList[j]?=some (if j%2=0 then Value.int .u8 0 else Value.int .u32 0):=by
    simp[madeCells,Value.cells,A];rcases Nat.mod_two_eq_zero_or_one j with q|q;·rw[q];rfl
    ·rw[q];rfl
   rw[←K,List.getElem?_take,if_pos A,Array.getElem?_toList]at z;exact z
  refine⟨t,J,fun i e j=>?_⟩;have hi:i<n:=by simpa using(List.getElem?_eq_some_iff.1 j).1
  have I:e=⟨0,0⟩:=by
   rw[List.getElem?_replicate,if_pos hi]at j;exact(Option.some.inj j).symm
  subst I;constructor;·rw[key _ (by omega),if_pos (by omega)]
  ·rw[key _ (by omega),if_neg (by omega)]

end Go.Proofs.YtafkamlhimkbmaaGreat
