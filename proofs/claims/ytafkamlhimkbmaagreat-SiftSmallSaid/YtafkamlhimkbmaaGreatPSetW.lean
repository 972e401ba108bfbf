/-
  set.Right and set.Has.
-/
import Derived.Test.YtafkamlhimkbmaaGreatPSwapU
namespace Go.Proofs.YtafkamlhimkbmaaGreat
set_option maxRecDepth 1000000
set_option maxHeartbeats 8000000
set_option linter.unusedSimpArgs false
set_option linter.unusedVariables false
open Go.RowKit

theorem zW (n:Int)(w:World):Calls Tryz.prog 159 #[.int .i64 n] w fun e w'=>e=.returned (.bool (decide (0≤n∧n≤16)))∧w=w':=by
 by_cases j:0≤n
 ·by_cases q:n≤16
  ·rw[decide_eq_true (show 0≤n∧n≤16 from⟨j,q⟩)];go_enter Tryz.func159,Tryz.ntmps159
   go_wp2
   go_ret
   exact⟨rfl,rfl⟩
  ·rw[decide_eq_false (show¬(0≤n∧n≤16)from fun h=>q h.2)];go_enter Tryz.func159,Tryz.ntmps159
   go_wp2
   go_ret
   exact⟨rfl,rfl⟩
 ·rw[decide_eq_false (show¬(0≤n∧n≤16)from fun h=>j h.1)];go_enter Tryz.func159,Tryz.ntmps159
  go_wp2
  go_ret
  exact⟨rfl,rfl⟩

theorem Aa (n:Nat)(j:n≤16)(w:World):Calls Tryz.prog 160 #[.int .i64 (n:Int)] w fun e w'=>e=.returned (.int .i64 ((max 1 (2 ^ n / 64):Nat):Int))∧w=w':=by
 have h:n=0∨n=1∨n=2∨n=3∨n=4∨n=5∨n=6∨n=7∨n=8∨n=9∨n=10∨n=11∨n=12∨n=13∨n=14∨n=15∨n=16:=by omega
 rcases h with rfl|rfl|rfl|rfl|rfl|rfl|rfl|rfl|rfl|rfl|rfl|rfl|rfl|rfl|rfl|rfl|rfl;all_goals go_enter Tryz.func160,Tryz.ntmps160
 all_goals go_wp2
 all_goals go_ret
 all_goals exact⟨rfl,rfl⟩

theorem and_one_u64 (j:Int)(s:0≤j)(q:j<18446744073709551616):bits BinOp.and IntKind.u64 j 1=j%2:=by
 obtain⟨a,rfl⟩:∃a:Nat,j=(a:Int):=⟨j.toNat,by omega⟩;have s:a &&& 1=a%2:=Nat.and_one_is_mod a
 have q:(BitVec.ofInt 64 (a:Int)).toNat=a:=by
  rw[BitVec.ofInt_natCast,BitVec.toNat_ofNat];exact Nat.mod_eq_of_lt (by omega)
 have j:(BitVec.ofInt 64 ((1:Nat):Int)).toNat=1:=by
  rw[BitVec.ofInt_natCast,BitVec.toNat_ofNat]
 show IntKind.u64.wrap ((BitVec.ofInt 64 (a:Int) &&& BitVec.ofInt 64 ((1:Nat):Int)).toNat:Int)=_;rw[BitVec.toNat_and,q,j,s];have:((a%2:Nat):Int)%2 ^ 64=((a%2:Nat):Int):=Int.emod_eq_of_lt (by omega) (by omega);simp only[IntKind.wrap,IntKind.bits,IntKind.signed,this];simp

def gN (n:Nat):Nat:=if 6≤n then 64 else 2 ^ n

theorem zU (n:Nat)(j:n≤16)(w:World):Calls Tryz.prog 161 #[.int .i64 (n:Int)] w fun e w'=>e=.returned (.int .u64 (2 ^ gN n-1))∧w=w':=by
 have h:n=0∨n=1∨n=2∨n=3∨n=4∨n=5∨n=6∨n=7∨n=8∨n=9∨n=10∨n=11∨n=12∨n=13∨n=14∨n=15∨n=16:=by omega
 rcases h with rfl|rfl|rfl|rfl|rfl|rfl|rfl|rfl|rfl|rfl|rfl|rfl|rfl|rfl|rfl|rfl|rfl;all_goals go_enter Tryz.func161,Tryz.ntmps161
 all_goals go_wp2
 all_goals go_ret
 all_goals exact⟨rfl,rfl⟩

theorem sG {a k:Nat}(s:a<2 ^ 64)(j:k≤64):a &&& (2 ^ 64-(2 ^ k-1+1))=0↔a<2 ^ k:=by
 have q:0<2 ^ k:=Nat.pow_pos (by decide);have q:2 ^ k≤2 ^ 64:=Nat.pow_le_pow_right (by decide) j;have q:2 ^ k-1<2 ^ 64:=by omega
 have j:∀i,(a &&& (2 ^ 64-(2 ^ k-1+1))).testBit i=(a.testBit i&&(decide (i<64)&&!decide (i<k))):=fun i=>by
  rw[Nat.testBit_and,Nat.testBit_two_pow_sub_succ q,Nat.testBit_two_pow_sub_one]
 constructor
 ·intro h;apply Nat.lt_pow_two_of_testBit;intro i hi;by_cases q:i<64
  ·have:=j i;rw[h,Nat.zero_testBit,decide_eq_true q,decide_eq_false (show¬i<k by omega)]at this;simpa using this.symm
  ·exact Nat.testBit_lt_two_pow (Nat.lt_of_lt_of_le s (Nat.pow_le_pow_right (by decide) (by omega)))
 ·intro h;apply Nat.eq_of_testBit_eq;intro i;rw[j i,Nat.zero_testBit];by_cases hi:i<k;·rw[decide_eq_true hi];simp
  ·rw[Nat.testBit_lt_two_pow (Nat.lt_of_lt_of_le h (Nat.pow_le_pow_right (by decide) (by omega)))];simp

theorem sF {x:Int}(k:Nat)(N:0≤x)(O:x<2 ^ 64)(t:k≤64):(bits BinOp.andNot IntKind.u64 x (2 ^ k-1)==0)=decide (x<2 ^ k):=by
 obtain⟨a,rfl⟩:∃a:Nat,x=(a:Int):=⟨x.toNat,by omega⟩;have I:0<2 ^ k:=Nat.pow_pos (by decide);have J:2 ^ k≤2 ^ 64:=Nat.pow_le_pow_right (by decide) t;have z:(2:Int) ^ k=((2 ^ k:Nat):Int):=by push_cast;rfl
 have s:a<2 ^ 64:=by
  have A:(2:Nat) ^ 64=18446744073709551616:=rfl;have N:(2:Int) ^ 64=18446744073709551616:=rfl;omega
 have q:=sG s t;rw[z];obtain⟨j,K⟩:∃j,j=2 ^ k:=⟨_,rfl⟩;rw[←K]at I J q ⊢;have E:((j:Int)-1)=((j-1:Nat):Int):=by omega
 have A:(2:Nat) ^ 64=18446744073709551616:=rfl
 have t:∀c:Nat,c<2 ^ 64→(BitVec.ofInt 64 (c:Int)).toNat=c:=fun c z=>by
  rw[BitVec.ofInt_natCast,BitVec.toNat_ofNat];exact Nat.mod_eq_of_lt z
 have L:bits BinOp.andNot IntKind.u64 (a:Int) ((j:Int)-1)=((a &&& (2 ^ 64-(j-1+1)):Nat):Int):=by
  rw[E];show IntKind.u64.wrap ((BitVec.ofInt 64 (a:Int) &&& ~~~(BitVec.ofInt 64 ((j-1:Nat):Int))).toNat:Int)=_;rw[BitVec.toNat_and,BitVec.toNat_not,t a s,t (j-1) (by omega),show 2 ^ 64-1-(j-1)=2 ^ 64-(j-1+1) by omega];have s:a &&& (2 ^ 64-(j-1+1))≤a:=Nat.and_le_left;have:((a &&& (2 ^ 64-(j-1+1)):Nat):Int)%2 ^ 64=((a &&& (2 ^ 64-(j-1+1)):Nat):Int):=Int.emod_eq_of_lt (by omega) (by omega);simp only[IntKind.wrap,IntKind.bits,IntKind.signed,this];simp
 rw[L];by_cases h:a<j
 ·rw[q.2 h,decide_eq_true (show(a:Int)<(j:Int) by omega)];rfl
 ·have s:¬(a &&& (2 ^ 64-(j-1+1)))=0:=fun e=>h (q.1 e);rw[decide_eq_false (show¬(a:Int)<(j:Int) by omega)];simp only[beq_eq_false_iff_ne,ne_eq];omega

theorem qW (n:Int)(z:Option Addr)(len cap:Nat)(ws:List Int)(w:World)(a2:ws.length=len)(bi:len≤1048576)(Y:gI w z ws) :
  Calls Tryz.prog 97 #[.agg #[.int .i64 n,.slice z len cap]] w fun e w'=>e=.returned (.bool (eE n ws))∧aa w w':=by
 have I:(w.alloc (.cells #[.int .i64 n,.slice z len cap] 105)).cell? ⟨w.heap.size,0,none⟩=some (.int .i64 n):=by simp[go_sem]
 have J:(w.alloc (.cells #[.int .i64 n,.slice z len cap] 105)).cell? ⟨w.heap.size,1,none⟩=some (.slice z len cap):=by simp[go_sem]
 have L:aa w (w.alloc (.cells #[.int .i64 n,.slice z len cap] 105)):=(aa.refl _).alloc _
 have A:=fun(O:World)=>zW n O
 by_cases S:0≤n∧n≤16
 ·rw[decide_eq_true S]at A;obtain⟨j,rfl⟩:∃j:Nat,n=(j:Int):=⟨n.toNat,by omega⟩;have U:=fun(O:World)=>Aa j (by omega) O;have ab:=fun(O:World)=>zU j (by omega) O;obtain⟨wd,W⟩:∃wd,wd=max 1 (2 ^ j / 64):=⟨_,rfl⟩;rw[←W]at U;have O:1≤wd:=by omega
  obtain⟨q,s⟩:∃q,q=w.alloc (.cells #[.int .i64 (j:Int),.slice z len cap] 105):=⟨_,rfl⟩;rw[←s]at I J L;by_cases X:len=wd
  ·obtain⟨x,am⟩:∃b,ws[0]?=some b:=⟨_,List.getElem?_eq_getElem (by omega)⟩;obtain⟨⟨bg,a7⟩,b,off,rfl,aw⟩:=(Y.U L) 0 x am;rw[Nat.add_zero]at aw
   have be:gN j≤64:=by
    unfold gN;split;·exact Nat.le_refl _
    ·have:2 ^ j≤2 ^ 6:=Nat.pow_le_pow_right (by decide) (by omega);have O:(2:Nat) ^ 6=64:=rfl;omega
   have av:=sF (gN j) bg a7 be
   have ad:eE (j:Int) ws=decide (x<2 ^ gN j):=by
    have bb:ws.getD 0 0=x:=(by rw[List.getD_eq_getElem?_getD,am];rfl);unfold eE gN;rw[decide_eq_true S,Int.toNat_natCast,a2,←W,decide_eq_true X,bb,Bool.true_and,Bool.true_and];by_cases O:6≤j;·rw[if_pos O,decide_eq_true (show 6≤(j:Int)∨_ from .inl (by omega)),decide_eq_true a7]
    ·rw[if_neg O];congr 1
     simp only[eq_iff_iff];exact⟨fun K=>by rcases K with K|K;omega;exact K,fun K=>.inr K⟩
   obtain⟨K,a1⟩:∃K:Int,K=2 ^ gN j-1:=⟨_,rfl⟩;rw[←a1]at ab av;obtain⟨r,a3⟩:∃r,r=decide (x<2 ^ gN j):=⟨_,rfl⟩;rw[←a3]at av ad;rw[ad];have N:=Lib.hid A;have Z:=Lib.hid U;have a8:=Lib.hid ab;have E:=Lib.hid s;clear A U ab s Y am ad a1 a3 W I J;subst X;have I:q.cell? ⟨w.heap.size,0,none⟩=some (.int .i64 (j:Int)):=(by rw[E.out];simp[go_sem]);have J:q.cell? ⟨w.heap.size,1,none⟩=some (.slice (some ⟨b,off,none⟩) len cap):=(by rw[E.out];simp[go_sem]);go_enter Tryz.func97,Tryz.ntmps97
   go_wp2_with fail
   rw[←E.out];have a4:=aj.cell I;have a5:=aj.cell J;have K:=aj.cell aw;refine dT (q) (by kernel_rfl) (by kernel_rfl) (by(exact kp)) ?_;(repeat (go_big_quiet_step ((first|(go_at_call 159;with_reducible refine Calls.et (N.out _))|(go_at_call 160;with_reducible refine Calls.et (Z.out _))|(go_at_call 161;with_reducible refine Calls.et (a8.out _))))));refine wpQuiet_nil ?_;rintro a6 ⟨⟨_,T⟩,rfl⟩;try dsimp only
   go_wp2_with fail
   go_ret
   exact⟨rfl,L.trans T⟩
  ·have t:eE (j:Int) ws=false:=by
    cases t:eE (j:Int) ws with
    |false=>rfl
    |true=>
     have:=(ix.1 t).2.1;rw[Int.toNat_natCast,←W,a2]at this;exact absurd this X
   rw[t];have a':¬(len:Int)=(wd:Int):=(by omega);have j:((len:Int)==(wd:Int))=false:=(by simp[a']);have j:(len==wd)=false:=(by simp[X]);have N:=Lib.hid A;have Z:=Lib.hid U;have E:=Lib.hid s;clear A U s Y t W;go_enter Tryz.func97,Tryz.ntmps97
   go_wp2_with fail
   rw[←E.out];have a4:=aj.cell I;have a5:=aj.cell J;refine dT (q) (by kernel_rfl) (by kernel_rfl) (by(exact kp)) ?_;(repeat (go_big_quiet_step ((first|(go_at_call 159;with_reducible refine Calls.et (N.out _))|(go_at_call 160;with_reducible refine Calls.et (Z.out _))))));refine wpQuiet_nil ?_;rintro a6 ⟨⟨_,T⟩,rfl⟩;try dsimp only
   go_wp2_with fail
   go_ret
   exact⟨rfl,L.trans T⟩
 ·rw[decide_eq_false S]at A
  have t:eE n ws=false:=by
   cases t:eE n ws with
   |false=>rfl
   |true=>exact absurd (ix.1 t).1 S
  obtain⟨q,s⟩:∃q,q=w.alloc (.cells #[.int .i64 n,.slice z len cap] 105):=⟨_,rfl⟩;rw[←s]at I J L;rw[t];have N:=Lib.hid A;have E:=Lib.hid s;clear A s Y t S;go_enter Tryz.func97,Tryz.ntmps97
  go_wp2_with fail
  rw[←E.out];have a4:=aj.cell I;have a5:=aj.cell J;refine dT (q) (by kernel_rfl) (by kernel_rfl) (by(exact kp)) ?_;(repeat (go_big_quiet_step ((first|(go_at_call 159;with_reducible refine Calls.et (N.out _))))));refine wpQuiet_nil ?_;rintro a6 ⟨⟨_,T⟩,rfl⟩;try dsimp only
  go_wp2_with fail
  go_ret
  exact⟨rfl,L.trans T⟩

theorem zV (n x:Nat)(J:Option Addr)(len cap:Nat)(ws:List Int)(w:World)(z:ws.length=len)(W:len≤1048576)(t:gI w J ws)(A:eE (n:Int) ws=true)(L:x<2 ^ n) :
  Calls Tryz.prog 162 #[.agg #[.int .i64 (n:Int),.slice J len cap],.int .i64 (x:Int)] w fun e w'=>e=.returned (.bool (hasB ws x))∧aa w w':=by
 obtain⟨J,s,S⟩:=ix.1 A
 rw[Int.toNat_natCast,z]at s
 have J:2 ^ n≤2 ^ 16:=Nat.pow_le_pow_right (by decide) (by omega)
 have J:(2:Nat) ^ 16=65536:=rfl
 have j:2 ^ n≤64∨∃k,2 ^ n=64*k:=by
  by_cases J:n≤6
  ·left;have:2 ^ n≤2 ^ 6:=Nat.pow_le_pow_right (by decide) J;exact this
  ·right;refine⟨2 ^ (n-6),?_⟩;rw[show(64:Nat)=2 ^ 6 from rfl,←Nat.pow_add];congr 1
   omega
 have J:x / 64<len:=by
  rcases j with j|⟨k,j⟩;·omega
  ·rw[j]at L s;have:64*k / 64=k:=(by omega);omega
 obtain⟨v,I⟩:∃b,ws[x / 64]?=some b:=⟨_,List.getElem?_eq_getElem (by omega)⟩
 obtain⟨⟨N,Y⟩,b,off,rfl,T⟩:=t (x / 64) v I
 have E:=fun(j:World) (J:aa w j)=>qW (n:Int) (some ⟨b,off,none⟩) len cap ws j z W (t.U J)
 rw[A]at E
 have K:hasB ws x=(v / 2 ^ (x%64)%2==1):=by
  unfold hasB;rw[List.getD_eq_getElem?_getD,I];rfl
 have j:0≤v / 2 ^ (x%64):=Int.ediv_nonneg N (Int.le_of_lt (Int.pow_pos (by decide)))
 have J:v / 2 ^ (x%64)≤v:=Int.ediv_le_self _ N
 have hand:=and_one_u64 (v / 2 ^ (x%64)) j (by omega)
 rw[K]
 have j:(x:Int)<2 ^ n:=by exact_mod_cast L
 have j:=oz (x:=(n:Int)) (by omega)
 rw[Int.toNat_natCast]at j
 have O:=Lib.hid E
 have j:(0:Int)≤(x:Int):=by omega
 have j:x≤65536:=by omega
 clear E t A s S I K z
 go_enter Tryz.func162,Tryz.ntmps162
 go_wp2_with fail
 refine(O.out _ (by(exact kp))).mono ?_
 rintro e w1 ⟨rfl,q⟩
 have j:=q.cell (a:=⟨w.heap.size,0,none⟩) (v:=.int .i64 (n:Int)) (by simp[go_sem])
 have j:=q.cell (a:=⟨w.heap.size,1,none⟩) (v:=.slice (some ⟨b,off,none⟩) len cap) (by simp[go_sem])
 have U:=(((aa.refl w).alloc (.cells #[.int .i64 (n:Int),.slice (some ⟨b,off,none⟩) len cap] 105)).trans q).cell T
 have X:=q.size
 simp only[World.size_alloc]at X
 have j:b<w1.heap.size:=aD U
 have j:w.heap.size<w1.heap.size:=by omega
 go_wp2_with fail
 go_ret
 exact⟨rfl,by(exact kp)⟩

end Go.Proofs.YtafkamlhimkbmaaGreat
