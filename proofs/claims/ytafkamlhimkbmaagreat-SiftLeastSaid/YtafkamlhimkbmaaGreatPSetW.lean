/-
  Plainly: assignments under an order of the variables; what a step makes of them.
-/
import Derived.Test.YtafkamlhimkbmaaGreatPSwapE
import Derived.Test.YtafkamlhimkbmaaGreatPSwapP
import Derived.Test.YtafkamlhimkbmaaGreatPWordsR
namespace Go.Proofs.YtafkamlhimkbmaaGreat
set_option maxRecDepth 1000000
set_option maxHeartbeats 8000000
set_option linter.unusedSimpArgs false
set_option linter.unusedVariables false

def vb (j:Nat)(v:Int):Nat:=if an (j:Int) v=true then 1 else 0

theorem jd (j:Nat)(v:Int):vb j v≤1:=by unfold vb;split<;>decide

def dV (j:Nat):List Int→Nat
 |[]=>0
 |v::ps=>vb j v+2*dV j ps

def aP (j:Nat):List Int→Nat
 |[]=>0
 |v::ps=>vb j v*2 ^ ps.length+aP j ps

theorem gG (j:Nat):∀ps:List Int,aP j ps<2 ^ ps.length:=by
 intro ps;induction ps with
 |nil=>exact Nat.one_pos
 |cons v ps q=>
  have:=jd j v;have q:2 ^ (v::ps).length=2 ^ ps.length*2:=by rw[List.length_cons,Nat.pow_succ]
  show vb j v*2 ^ ps.length+aP j ps<_;rw[q];rcases Nat.le_one_iff_eq_zero_or_eq_one.1 this with h|h;·rw[h];omega
  ·rw[h];omega

theorem ur (j:Nat):∀(ps:List Int) (v:Int),aP j (ps++[v])=2*aP j ps+vb j v:=by
 intro ps;induction ps with
 |nil=>intro v;show vb j v*2 ^ 0+0=2*0+vb j v;omega
 |cons a ps q=>
  intro v;show vb j a*2 ^ (ps++[v]).length+aP j (ps++[v])=2*(vb j a*2 ^ ps.length+aP j ps)+vb j v;rw[q,List.length_append];show vb j a*2 ^ (ps.length+1)+_=_;rw[Nat.pow_succ,←Nat.mul_assoc];omega

theorem zq (j:Nat):∀(ps:List Int) (m:Nat),rv (aP j ps) ps.length m=2 ^ m*(dV j ps:Int):=by
 intro ps;induction ps with
 |nil=>intro m;show(0:Int)=2 ^ m*((0:Nat):Int);simp
 |cons v ps A=>
  intro m;have q:=gG j ps;have t:0<2 ^ ps.length:=Nat.pow_pos (by decide);show(if(vb j v*2 ^ ps.length+aP j ps) / 2 ^ ps.length%2=1 then(2:Int) ^ m else 0)+rv ((vb j v*2 ^ ps.length+aP j ps)%2 ^ ps.length) ps.length (m+1)=2 ^ m*((vb j v+2*dV j ps:Nat):Int)
  have s:(vb j v*2 ^ ps.length+aP j ps) / 2 ^ ps.length=vb j v:=by
   rw[Nat.mul_comm,Nat.mul_add_div t,Nat.div_eq_of_lt q,Nat.add_zero]
  have t:(vb j v*2 ^ ps.length+aP j ps)%2 ^ ps.length=aP j ps:=by
   rw[Nat.mul_comm,Nat.mul_add_mod,Nat.mod_eq_of_lt q]
  rw[s,t,A];have z:=jd j v;rw[Int.pow_succ];rcases Nat.le_one_iff_eq_zero_or_eq_one.1 z with h|h
  ·rw[h,if_neg (by decide)];push_cast;rw[Int.mul_assoc,Int.zero_add,Int.zero_add]
  ·rw[h,if_pos (by decide)];push_cast;rw[Int.mul_assoc,Int.mul_add];omega

theorem jj (y j:Nat):an (y:Int) (j:Int)=y.testBit j:=by
 rw[sM,Nat.testBit_eq_decide_div_mod_eq]

theorem rp (j:Nat):∀(ps:List Int) (q:Nat),(dV j ps).testBit q=match ps[q]? with|some v=>an (j:Int) v|none=>false:=by
 intro ps;induction ps with
 |nil=>intro q;show(0:Nat).testBit q=_;simp
 |cons v ps s=>
  intro q;show(vb j v+2*dV j ps).testBit q=_;cases q with
  |zero=>
   rw[Nat.testBit_zero];show decide ((vb j v+2*dV j ps)%2=1)=an (j:Int) v;unfold vb;cases an (j:Int) v with
   |true=>rw[if_pos rfl];exact decide_eq_true (by omega)
   |false=>rw[if_neg (by simp)];exact decide_eq_false (by omega)
  |succ q=>
   rw[Nat.testBit_succ];have e:(vb j v+2*dV j ps) / 2=dV j ps:=(by have:=jd j v;omega);rw[e,s];rfl

theorem Ay {ps:List Int}{i:Nat}(h:i+1<ps.length)(q:Nat):nX (i:Int) (dV q (bG ps i):Int) (dV q ps:Int):=by
 have key:∀j:Nat,an (dV q (bG ps i):Int) (j:Int)=match (if j=i then ps[i+1]? else if j=i+1 then ps[i]? else ps[j]?)with|some v=>an (q:Int) v|none=>false:=fun j=>by
  rw[jj,rp,gq h]
 have s:∀j:Nat,an (dV q ps:Int) (j:Int)=match ps[j]? with|some v=>an (q:Int) v|none=>false:=fun j=>by
  rw[jj,rp]
 refine⟨?_,?_,fun j q t z=>?_⟩;·rw[key i,if_pos rfl,show(i:Int)+1=((i+1:Nat):Int) by push_cast;rfl,s]
 ·rw[show(i:Int)+1=((i+1:Nat):Int) by push_cast;rfl,key (i+1),if_neg (by omega),if_pos rfl,s]
 ·obtain⟨j,rfl⟩:∃k:Nat,j=(k:Int):=⟨j.toNat,by omega⟩;rw[key j,if_neg (by omega),if_neg (by omega),s]

def tabP (M:St)(ps:List Int)(f:Int)(e:Edge):List Bool:=(List.range (2 ^ ps.length)).map (fun j=>tv M f (dV j ps:Int) 0 e)

theorem AJ (M:St)(ps:List Int)(f:Int)(e:Edge):(tabP M ps f e).length=2 ^ ps.length:=by unfold tabP;simp

theorem qU {M:St}{ps:List Int}{f:Int}{e:Edge}{j:Nat}(h:j<2 ^ ps.length):(tabP M ps f e)[j]?=some (tv M f (dV j ps:Int) 0 e):=by
 unfold tabP;simp[h]

theorem k7 {M M':St}(h:M.wf)(j:au M M'){ps:List Int}{f:Int}{e:Edge}(q:M.leads f e 0=true):tabP M' ps f e=tabP M ps f e:=by
 unfold tabP;refine List.map_congr_left fun s _=>?_;exact dA h j (aW.of q)

theorem qQ {M:St}{ps:List Int}{f:Int}{e:Edge}(q:M.n=(ps.length:Int))(j:Nat):(cz M f e 0)[aP j ps]?=some (tv M f (dV j ps:Int) 0 e):=by
 unfold cz;rw[show(M.n-0).toNat=ps.length by omega];show(dc _ ps.length 0 0)[aP j ps]?=_;rw[AK _ _ _ _ (gG j ps),zq];simp

theorem eL.tabP {lv:Nat}{f:Int}{M:St}{e x:Edge}(h:eL (lv:Int) f M e 0 x){ps:List Int}(q:lv+1<ps.length):tabP M (bG ps lv) f x=tabP M ps f e:=by
 unfold Go.Proofs.YtafkamlhimkbmaaGreat.tabP;rw[gV];exact List.map_congr_left fun j _=>h.cx _ _ (Ay q j)

def eH:List Bool→Nat
 |[]=>0
 |b::l=>(if b then 1 else 0)+2*eH l

theorem mC:∀l:List Bool,eH l<2 ^ l.length:=by
 intro l;induction l with
 |nil=>decide
 |cons b l j=>
  show(if b then 1 else 0)+2*eH l<2 ^ (l.length+1);rw[Nat.pow_succ];cases b<;>simp<;>omega

theorem xJ:∀(l:List Bool) (i:Nat),eH l / 2 ^ i%2=if l.getD i false then 1 else 0:=by
 intro l;induction l with
 |nil=>intro i;simp[eH]
 |cons b l j=>
  intro i;cases i with
  |zero=>
   show((if b then 1 else 0)+2*eH l) / 2 ^ 0%2=if b then 1 else 0;cases b<;>simp<;>omega
  |succ i=>
   show((if b then 1 else 0)+2*eH l) / 2 ^ (i+1)%2=if l.getD i false then 1 else 0;rw[←j i,Nat.pow_succ,Nat.mul_comm (2 ^ i) 2,←Nat.div_div_eq_div_mul];congr 2
   cases b<;>simp<;>omega

def ey (n:Int)(ws:List Int):Bool:=decide (0≤n∧n≤16)&&(decide (ws.length=max 1 (2 ^ n.toNat / 64))&&decide (6≤n∨ws.getD 0 0<2 ^ 2 ^ n.toNat))

def hasB (ws:List Int)(x:Nat):Bool:=ws.getD (x / 64) 0 / 2 ^ (x%64)%2==1

theorem ix {n:Int}{ws:List Int}:ey n ws=true↔(0≤n∧n≤16)∧ws.length=max 1 (2 ^ n.toNat / 64)∧(6≤n∨ws.getD 0 0<2 ^ 2 ^ n.toNat):=by
 unfold ey;rw[Bool.and_eq_true,Bool.and_eq_true,decide_eq_true_eq,decide_eq_true_eq,decide_eq_true_eq]

def bu (ts:List Bool):List Int:=(List.range ((ts.length+63) / 64)).map (fun w=>(eH ((ts.drop (64*w)).take 64):Int))

theorem lh (ts:List Bool):(bu ts).length=(ts.length+63) / 64:=by unfold bu;simp

theorem nJ {ts:List Bool}{w:Nat}(h:w<(ts.length+63) / 64):(bu ts).getD w 0=(eH ((ts.drop (64*w)).take 64):Int):=by
 unfold bu;rw[List.getD_eq_getElem?_getD,List.getElem?_map,List.getElem?_range h];rfl

theorem vq {ts:List Bool}{x:Nat}(h:x<ts.length):hasB (bu ts) x=ts.getD x false:=by
 unfold hasB;rw[nJ (by omega)];have j:=xJ ((ts.drop (64*(x / 64))).take 64) (x%64)
 have e:((ts.drop (64*(x / 64))).take 64).getD (x%64) false=ts.getD x false:=by
  rw[List.getD_eq_getElem?_getD,List.getD_eq_getElem?_getD,List.getElem?_take_of_lt (by omega),List.getElem?_drop,show 64*(x / 64)+x%64=x from by omega]
 rw[e]at j;have q:((eH ((ts.drop (64*(x / 64))).take 64):Int) / 2 ^ (x%64))%2=((eH ((ts.drop (64*(x / 64))).take 64) / 2 ^ (x%64)%2:Nat):Int):=by push_cast;rfl
 rw[q,j];cases ts.getD x false<;>rfl

theorem Cm:∀n:Nat,n≤16→(2 ^ n+63) / 64=max 1 (2 ^ n / 64):=by decide

theorem zF {ts:List Bool}{n:Nat}(q:n≤16)(j:ts.length=2 ^ n):ey (n:Int) (bu ts)=true:=by
 have s:0<2 ^ n:=Nat.pow_pos (by decide);refine ix.2 ⟨by omega,by rw[lh,j,Int.toNat_natCast];exact Cm n q,?_⟩;by_cases j:6≤n;·exact .inl (by omega)
 ·right;rw[nJ (by omega),Int.toNat_natCast];have j:=mC ((ts.drop (64*0)).take 64);have q:((ts.drop (64*0)).take 64).length≤2 ^ n:=by rw[List.length_take,List.length_drop];omega
  have s:2 ^ ((ts.drop (64*0)).take 64).length≤2 ^ 2 ^ n:=Nat.pow_le_pow_right (by decide) q;exact_mod_cast Nat.lt_of_lt_of_le j s

def bO (has:Nat→Bool):List Int→Nat→List Bool
 |[],x=>[has x]
 |v::j,x=>bO has j x++bO has j (x ||| 2 ^ v.toNat)

theorem fW (has:Nat→Bool):∀(j:List Int) (x:Nat),(bO has j x).length=2 ^ j.length:=by
 intro j;induction j with
 |nil=>intro x;rfl
 |cons v j q=>intro x;show(bO has j x++bO has j _).length=2 ^ (j.length+1);rw[List.length_append,q,q,Nat.pow_succ];omega

def iv (j:Nat):List Int→Nat→Nat
 |[],x=>x
 |v::q,x=>iv j q (if an (j:Int) v=true then x ||| 2 ^ v.toNat else x)

theorem lF (has:Nat→Bool)(q:Nat):∀(j:List Int) (x:Nat),(bO has j x)[aP q j]?=some (has (iv q j x)):=by
 intro j;induction j with
 |nil=>intro x;rfl
 |cons v j t=>
  intro x;show(bO has j x++bO has j (x ||| 2 ^ v.toNat))[vb q v*2 ^ j.length+aP q j]?=some (has (iv q j _));have s:=gG q j;unfold vb;by_cases s:an (q:Int) v=true
  ·rw[if_pos s,if_pos s,List.getElem?_append_right (by rw[fW];omega),fW,show 1*2 ^ j.length+aP q j-2 ^ j.length=aP q j from by omega];exact t _
  ·rw[if_neg s,if_neg s,List.getElem?_append_left (by rw[fW];omega),show 0*2 ^ j.length+aP q j=aP q j from by omega];exact t _

theorem yz (s:Nat):∀(q:List Int) (x j:Nat),(∀v∈q,0≤v)→(iv s q x).testBit j=(x.testBit j||(decide ((j:Int)∈q)&&s.testBit j)):=by
 intro q;induction q with
 |nil=>intro x j _;simp[iv]
 |cons v q J=>
  intro x j h;have K:=h v (by simp);show(iv s q _).testBit j=_;rw[J _ j (fun u I=>h u (by simp[I]))];obtain⟨V,rfl⟩:∃V:Nat,v=(V:Int):=⟨v.toNat,by omega⟩;rw[jj,Int.toNat_natCast];by_cases t:j=V
  ·subst t;cases A:s.testBit j<;>simp[Nat.testBit_or,Nat.testBit_two_pow]
  ·have E:¬V=j:=fun e=>t e.symm;have z:¬(j:Int)=(V:Int):=(by omega);cases A:s.testBit V;·simp[z]
   ·simp[z,Nat.testBit_or,Nat.testBit_two_pow,E]

theorem mM {j:Nat}{ps:List Int}(s:aA ps=true)(z:j<2 ^ ps.length):iv j ps 0=j:=by
 obtain⟨A,t,E⟩:=dp.1 s;apply Nat.eq_of_testBit_eq;intro q;rw[yz j ps 0 q (fun v A=>(t v A).1)];by_cases t:q<ps.length
 ·have:(q:Int)∈ps:=(kP.1 s).2.symm.subset (gi.2 ⟨by omega,by omega⟩);simp[this]
 ·have:j.testBit q=false:=Nat.testBit_lt_two_pow (Nat.lt_of_lt_of_le z (Nat.pow_le_pow_right (by decide) (by omega)));simp[this]

open Go.RowKit

theorem zD (n:Int)(w:World):Calls Tryz.prog 159 #[.int .i64 n] w fun e s=>e=.returned (.bool (decide (0≤n∧n≤16)))∧w=s:=by
 by_cases j:0≤n
 ·by_cases q:n≤16
  ·rw[decide_eq_true (show 0≤n∧n≤16 from⟨j,q⟩)];go_enter Tryz.func159,Tryz.ntmps159
   go_wp2
   go_ret
   exact⟨rfl,rfl⟩
  ·rw[decide_eq_false (show¬(0≤n∧n≤16)from fun h=>q h.2)];go_enter Tryz.func159,Tryz.ntmps159
   go_wp2
   go_ret
   exact⟨rfl,rfl⟩
 ·rw[decide_eq_false (show¬(0≤n∧n≤16)from fun h=>j h.1)];go_enter Tryz.func159,Tryz.ntmps159
  go_wp2
  go_ret
  exact⟨rfl,rfl⟩

theorem zH (n:Nat)(q:n≤16)(w:World):Calls Tryz.prog 160 #[.int .i64 (n:Int)] w fun e j=>e=.returned (.int .i64 ((max 1 (2 ^ n / 64):Nat):Int))∧w=j:=by
 have h:n=0∨n=1∨n=2∨n=3∨n=4∨n=5∨n=6∨n=7∨n=8∨n=9∨n=10∨n=11∨n=12∨n=13∨n=14∨n=15∨n=16:=by omega
 rcases h with rfl|rfl|rfl|rfl|rfl|rfl|rfl|rfl|rfl|rfl|rfl|rfl|rfl|rfl|rfl|rfl|rfl;all_goals go_enter Tryz.func160,Tryz.ntmps160
 all_goals go_wp2
 all_goals go_ret
 all_goals exact⟨rfl,rfl⟩

theorem and_one_u64 (j:Int)(s:0≤j)(q:j<18446744073709551616):bits BinOp.and IntKind.u64 j 1=j%2:=by
 obtain⟨a,rfl⟩:∃a:Nat,j=(a:Int):=⟨j.toNat,by omega⟩;have s:a &&& 1=a%2:=Nat.and_one_is_mod a
 have q:(BitVec.ofInt 64 (a:Int)).toNat=a:=by
  rw[BitVec.ofInt_natCast,BitVec.toNat_ofNat];exact Nat.mod_eq_of_lt (by omega)
 have j:(BitVec.ofInt 64 ((1:Nat):Int)).toNat=1:=by
  rw[BitVec.ofInt_natCast,BitVec.toNat_ofNat]
 show IntKind.u64.wrap ((BitVec.ofInt 64 (a:Int) &&& BitVec.ofInt 64 ((1:Nat):Int)).toNat:Int)=_;rw[BitVec.toNat_and,q,j,s];have:((a%2:Nat):Int)%2 ^ 64=((a%2:Nat):Int):=Int.emod_eq_of_lt (by omega) (by omega);simp only[IntKind.wrap,IntKind.bits,IntKind.signed,this];simp

def gJ (n:Nat):Nat:=if 6≤n then 64 else 2 ^ n

theorem zB (n:Nat)(q:n≤16)(w:World):Calls Tryz.prog 161 #[.int .i64 (n:Int)] w fun e j=>e=.returned (.int .u64 (2 ^ gJ n-1))∧w=j:=by
 have h:n=0∨n=1∨n=2∨n=3∨n=4∨n=5∨n=6∨n=7∨n=8∨n=9∨n=10∨n=11∨n=12∨n=13∨n=14∨n=15∨n=16:=by omega
 rcases h with rfl|rfl|rfl|rfl|rfl|rfl|rfl|rfl|rfl|rfl|rfl|rfl|rfl|rfl|rfl|rfl|rfl;all_goals go_enter Tryz.func161,Tryz.ntmps161
 all_goals go_wp2
 all_goals go_ret
 all_goals exact⟨rfl,rfl⟩

theorem rU {a k:Nat}(s:a<2 ^ 64)(j:k≤64):a &&& (2 ^ 64-(2 ^ k-1+1))=0↔a<2 ^ k:=by
 have q:0<2 ^ k:=Nat.pow_pos (by decide);have q:2 ^ k≤2 ^ 64:=Nat.pow_le_pow_right (by decide) j;have q:2 ^ k-1<2 ^ 64:=by omega
 have j:∀i,(a &&& (2 ^ 64-(2 ^ k-1+1))).testBit i=(a.testBit i&&(decide (i<64)&&!decide (i<k))):=fun i=>by
  rw[Nat.testBit_and,Nat.testBit_two_pow_sub_succ q,Nat.testBit_two_pow_sub_one]
 constructor
 ·intro h;apply Nat.lt_pow_two_of_testBit;intro i hi;by_cases q:i<64
  ·have:=j i;rw[h,Nat.zero_testBit,decide_eq_true q,decide_eq_false (show¬i<k by omega)]at this;simpa using this.symm
  ·exact Nat.testBit_lt_two_pow (Nat.lt_of_lt_of_le s (Nat.pow_le_pow_right (by decide) (by omega)))
 ·intro h;apply Nat.eq_of_testBit_eq;intro i;rw[j i,Nat.zero_testBit];by_cases hi:i<k;·rw[decide_eq_true hi];simp
  ·rw[Nat.testBit_lt_two_pow (Nat.lt_of_lt_of_le h (Nat.pow_le_pow_right (by decide) (by omega)))];simp

theorem rT {x:Int}(k:Nat)(N:0≤x)(O:x<2 ^ 64)(t:k≤64):(bits BinOp.andNot IntKind.u64 x (2 ^ k-1)==0)=decide (x<2 ^ k):=by
 obtain⟨a,rfl⟩:∃a:Nat,x=(a:Int):=⟨x.toNat,by omega⟩;have I:0<2 ^ k:=Nat.pow_pos (by decide);have J:2 ^ k≤2 ^ 64:=Nat.pow_le_pow_right (by decide) t;have z:(2:Int) ^ k=((2 ^ k:Nat):Int):=by push_cast;rfl
 have s:a<2 ^ 64:=by
  have A:(2:Nat) ^ 64=18446744073709551616:=rfl;have N:(2:Int) ^ 64=18446744073709551616:=rfl;omega
 have q:=rU s t;rw[z];obtain⟨j,K⟩:∃j,j=2 ^ k:=⟨_,rfl⟩;rw[←K]at I J q ⊢;have E:((j:Int)-1)=((j-1:Nat):Int):=by omega
 have A:(2:Nat) ^ 64=18446744073709551616:=rfl
 have t:∀c:Nat,c<2 ^ 64→(BitVec.ofInt 64 (c:Int)).toNat=c:=fun c z=>by
  rw[BitVec.ofInt_natCast,BitVec.toNat_ofNat];exact Nat.mod_eq_of_lt z
 have L:bits BinOp.andNot IntKind.u64 (a:Int) ((j:Int)-1)=((a &&& (2 ^ 64-(j-1+1)):Nat):Int):=by
  rw[E];show IntKind.u64.wrap ((BitVec.ofInt 64 (a:Int) &&& ~~~(BitVec.ofInt 64 ((j-1:Nat):Int))).toNat:Int)=_;rw[BitVec.toNat_and,BitVec.toNat_not,t a s,t (j-1) (by omega),show 2 ^ 64-1-(j-1)=2 ^ 64-(j-1+1) by omega];have s:a &&& (2 ^ 64-(j-1+1))≤a:=Nat.and_le_left;have:((a &&& (2 ^ 64-(j-1+1)):Nat):Int)%2 ^ 64=((a &&& (2 ^ 64-(j-1+1)):Nat):Int):=Int.emod_eq_of_lt (by omega) (by omega);simp only[IntKind.wrap,IntKind.bits,IntKind.signed,this];simp
 rw[L];by_cases h:a<j
 ·rw[q.2 h,decide_eq_true (show(a:Int)<(j:Int) by omega)];rfl
 ·have s:¬(a &&& (2 ^ 64-(j-1+1)))=0:=fun e=>h (q.1 e);rw[decide_eq_false (show¬(a:Int)<(j:Int) by omega)];simp only[beq_eq_false_iff_ne,ne_eq];omega

theorem qx (n:Int)(z:Option Addr)(len cap:Nat)(ws:List Int)(w:World)(a2:ws.length=len)(bn:len≤1048576)(Y:gE w z ws) :
  Calls Tryz.prog 97 #[.agg #[.int .i64 n,.slice z len cap]] w fun e bg=>e=.returned (.bool (ey n ws))∧aa w bg:=by
 have I:(w.alloc (.cells #[.int .i64 n,.slice z len cap] 105)).cell? ⟨w.heap.size,0,none⟩=some (.int .i64 n):=by simp[go_sem]
 have J:(w.alloc (.cells #[.int .i64 n,.slice z len cap] 105)).cell? ⟨w.heap.size,1,none⟩=some (.slice z len cap):=by simp[go_sem]
 have L:aa w (w.alloc (.cells #[.int .i64 n,.slice z len cap] 105)):=(aa.refl _).alloc _
 have A:=fun(O:World)=>zD n O
 by_cases S:0≤n∧n≤16
 ·rw[decide_eq_true S]at A;obtain⟨j,rfl⟩:∃j:Nat,n=(j:Int):=⟨n.toNat,by omega⟩;have U:=fun(O:World)=>zH j (by omega) O;have ab:=fun(O:World)=>zB j (by omega) O;obtain⟨wd,W⟩:∃wd,wd=max 1 (2 ^ j / 64):=⟨_,rfl⟩;rw[←W]at U;have O:1≤wd:=by omega
  obtain⟨q,s⟩:∃q,q=w.alloc (.cells #[.int .i64 (j:Int),.slice z len cap] 105):=⟨_,rfl⟩;rw[←s]at I J L;by_cases X:len=wd
  ·obtain⟨x,am⟩:∃b,ws[0]?=some b:=⟨_,List.getElem?_eq_getElem (by omega)⟩;obtain⟨⟨bi,a7⟩,b,off,rfl,aw⟩:=(Y.U L) 0 x am;rw[Nat.add_zero]at aw
   have be:gJ j≤64:=by
    unfold gJ;split;·exact Nat.le_refl _
    ·have:2 ^ j≤2 ^ 6:=Nat.pow_le_pow_right (by decide) (by omega);have O:(2:Nat) ^ 6=64:=rfl;omega
   have av:=rT (gJ j) bi a7 be
   have ad:ey (j:Int) ws=decide (x<2 ^ gJ j):=by
    have bb:ws.getD 0 0=x:=(by rw[List.getD_eq_getElem?_getD,am];rfl);unfold ey gJ;rw[decide_eq_true S,Int.toNat_natCast,a2,←W,decide_eq_true X,bb,Bool.true_and,Bool.true_and];by_cases O:6≤j;·rw[if_pos O,decide_eq_true (show 6≤(j:Int)∨_ from .inl (by omega)),decide_eq_true a7]
    ·rw[if_neg O];congr 1
     simp only[eq_iff_iff];exact⟨fun K=>by rcases K with K|K;omega;exact K,fun K=>.inr K⟩
   obtain⟨K,a1⟩:∃K:Int,K=2 ^ gJ j-1:=⟨_,rfl⟩;rw[←a1]at ab av;obtain⟨r,a3⟩:∃r,r=decide (x<2 ^ gJ j):=⟨_,rfl⟩;rw[←a3]at av ad;rw[ad];have N:=Lib.hid A;have Z:=Lib.hid U;have a8:=Lib.hid ab;have E:=Lib.hid s;clear A U ab s Y am ad a1 a3 W I J;subst X;have I:q.cell? ⟨w.heap.size,0,none⟩=some (.int .i64 (j:Int)):=(by rw[E.out];simp[go_sem]);have J:q.cell? ⟨w.heap.size,1,none⟩=some (.slice (some ⟨b,off,none⟩) len cap):=(by rw[E.out];simp[go_sem]);go_enter Tryz.func97,Tryz.ntmps97
   go_wp2_with fail
   rw[←E.out];have a4:=ai.cell I;have a5:=ai.cell J;have K:=ai.cell aw;refine dO (q) (by kernel_rfl) (by kernel_rfl) (by(exact kp)) ?_;(repeat (go_big_quiet_step ((first|(go_at_call 159;with_reducible refine Calls.ed (N.out _))|(go_at_call 160;with_reducible refine Calls.ed (Z.out _))|(go_at_call 161;with_reducible refine Calls.ed (a8.out _))))));refine wpQuiet_nil ?_;rintro a6 ⟨⟨_,T⟩,rfl⟩;try dsimp only
   go_wp2_with fail
   go_ret
   exact⟨rfl,L.trans T⟩
  ·have t:ey (j:Int) ws=false:=by
    cases t:ey (j:Int) ws with
    |false=>rfl
    |true=>
     have:=(ix.1 t).2.1;rw[Int.toNat_natCast,←W,a2]at this;exact absurd this X
   rw[t];have a':¬(len:Int)=(wd:Int):=(by omega);have j:((len:Int)==(wd:Int))=false:=(by simp[a']);have j:(len==wd)=false:=(by simp[X]);have N:=Lib.hid A;have Z:=Lib.hid U;have E:=Lib.hid s;clear A U s Y t W;go_enter Tryz.func97,Tryz.ntmps97
   go_wp2_with fail
   rw[←E.out];have a4:=ai.cell I;have a5:=ai.cell J;refine dO (q) (by kernel_rfl) (by kernel_rfl) (by(exact kp)) ?_;(repeat (go_big_quiet_step ((first|(go_at_call 159;with_reducible refine Calls.ed (N.out _))|(go_at_call 160;with_reducible refine Calls.ed (Z.out _))))));refine wpQuiet_nil ?_;rintro a6 ⟨⟨_,T⟩,rfl⟩;try dsimp only
   go_wp2_with fail
   go_ret
   exact⟨rfl,L.trans T⟩
 ·rw[decide_eq_false S]at A
  have t:ey n ws=false:=by
   cases t:ey n ws with
   |false=>rfl
   |true=>exact absurd (ix.1 t).1 S
  obtain⟨q,s⟩:∃q,q=w.alloc (.cells #[.int .i64 n,.slice z len cap] 105):=⟨_,rfl⟩;rw[←s]at I J L;rw[t];have N:=Lib.hid A;have E:=Lib.hid s;clear A s Y t S;go_enter Tryz.func97,Tryz.ntmps97
  go_wp2_with fail
  rw[←E.out];have a4:=ai.cell I;have a5:=ai.cell J;refine dO (q) (by kernel_rfl) (by kernel_rfl) (by(exact kp)) ?_;(repeat (go_big_quiet_step ((first|(go_at_call 159;with_reducible refine Calls.ed (N.out _))))));refine wpQuiet_nil ?_;rintro a6 ⟨⟨_,T⟩,rfl⟩;try dsimp only
  go_wp2_with fail
  go_ret
  exact⟨rfl,L.trans T⟩

theorem zC (n x:Nat)(J:Option Addr)(len cap:Nat)(ws:List Int)(w:World)(z:ws.length=len)(W:len≤1048576)(t:gE w J ws)(A:ey (n:Int) ws=true)(L:x<2 ^ n) :
  Calls Tryz.prog 162 #[.agg #[.int .i64 (n:Int),.slice J len cap],.int .i64 (x:Int)] w fun e Y=>e=.returned (.bool (hasB ws x))∧aa w Y:=by
 obtain⟨J,s,S⟩:=ix.1 A
 rw[Int.toNat_natCast,z]at s
 have J:2 ^ n≤2 ^ 16:=Nat.pow_le_pow_right (by decide) (by omega)
 have J:(2:Nat) ^ 16=65536:=rfl
 have j:2 ^ n≤64∨∃k,2 ^ n=64*k:=by
  by_cases J:n≤6
  ·left;have:2 ^ n≤2 ^ 6:=Nat.pow_le_pow_right (by decide) J;exact this
  ·right;refine⟨2 ^ (n-6),?_⟩;rw[show(64:Nat)=2 ^ 6 from rfl,←Nat.pow_add];congr 1
   omega
 have J:x / 64<len:=by
  rcases j with j|⟨k,j⟩;·omega
  ·rw[j]at L s;have:64*k / 64=k:=(by omega);omega
 obtain⟨v,I⟩:∃b,ws[x / 64]?=some b:=⟨_,List.getElem?_eq_getElem (by omega)⟩
 obtain⟨⟨N,Z⟩,b,off,rfl,T⟩:=t (x / 64) v I
 have E:=fun(j:World) (J:aa w j)=>qx (n:Int) (some ⟨b,off,none⟩) len cap ws j z W (t.U J)
 rw[A]at E
 have K:hasB ws x=(v / 2 ^ (x%64)%2==1):=by
  unfold hasB;rw[List.getD_eq_getElem?_getD,I];rfl
 have j:0≤v / 2 ^ (x%64):=Int.ediv_nonneg N (Int.le_of_lt (Int.pow_pos (by decide)))
 have J:v / 2 ^ (x%64)≤v:=Int.ediv_le_self _ N
 have hand:=and_one_u64 (v / 2 ^ (x%64)) j (by omega)
 rw[K]
 have j:(x:Int)<2 ^ n:=by exact_mod_cast L
 have j:=nM (x:=(n:Int)) (by omega)
 rw[Int.toNat_natCast]at j
 have O:=Lib.hid E
 have j:(0:Int)≤(x:Int):=by omega
 have j:x≤65536:=by omega
 clear E t A s S I K z
 go_enter Tryz.func162,Tryz.ntmps162
 go_wp2_with fail
 refine(O.out _ (by(exact kp))).mono ?_
 rintro e w1 ⟨rfl,q⟩
 have j:=q.cell (a:=⟨w.heap.size,0,none⟩) (v:=.int .i64 (n:Int)) (by simp[go_sem])
 have j:=q.cell (a:=⟨w.heap.size,1,none⟩) (v:=.slice (some ⟨b,off,none⟩) len cap) (by simp[go_sem])
 have U:=(((aa.refl w).alloc (.cells #[.int .i64 (n:Int),.slice (some ⟨b,off,none⟩) len cap] 105)).trans q).cell T
 have X:=q.size
 simp only[World.size_alloc]at X
 have j:b<w1.heap.size:=aD U
 have j:w.heap.size<w1.heap.size:=by omega
 go_wp2_with fail
 go_ret
 exact⟨rfl,by(exact kp)⟩

end Go.Proofs.YtafkamlhimkbmaaGreat
