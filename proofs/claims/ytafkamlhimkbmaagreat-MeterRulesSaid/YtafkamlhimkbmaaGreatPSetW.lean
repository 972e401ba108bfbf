/-
  set.Right and set.Has.
-/
import Derived.Test.YtafkamlhimkbmaaGreatPScaleW
namespace Go.Proofs.YtafkamlhimkbmaaGreat
set_option maxRecDepth 1000000
set_option maxHeartbeats 8000000
set_option linter.unusedSimpArgs false
set_option linter.unusedVariables false
open Go.RowKit
theorem yw (n:Int)(w:World):Calls Tryz.prog 159 #[.int .i64 n] w fun e t=>e=.returned (.bool (decide (0≤n∧n≤16)))∧w=t:=by
 by_cases h0:0≤n
 ·by_cases s:n≤16
  ·rw[bM (show 0≤n∧n≤16 from⟨h0,s⟩)];go_enter Tryz.func159,Tryz.ntmps159;go_wp2;go_ret;exact⟨rfl,rfl⟩
  ·rw[bQ (show¬(0≤n∧n≤16)from fun h=>s h.2)];go_enter Tryz.func159,Tryz.ntmps159;go_wp2;go_ret;exact⟨rfl,rfl⟩
 ·rw[bQ (show¬(0≤n∧n≤16)from fun h=>h0 h.1)];go_enter Tryz.func159,Tryz.ntmps159;go_wp2;go_ret;exact⟨rfl,rfl⟩
theorem yx (n:Nat)(t:n≤16)(w:World):Calls Tryz.prog 160 #[.int .i64 (n:Int)] w fun e s=>e=.returned (.int .i64 ((max 1 (2 ^ n / 64):Nat):Int))∧w=s:=by
 have h:n=0∨n=1∨n=2∨n=3∨n=4∨n=5∨n=6∨n=7∨n=8∨n=9∨n=10∨n=11∨n=12∨n=13∨n=14∨n=15∨n=16:=by omega
 rcases h with rfl|rfl|rfl|rfl|rfl|rfl|rfl|rfl|rfl|rfl|rfl|rfl|rfl|rfl|rfl|rfl|rfl;all_goals go_enter Tryz.func160,Tryz.ntmps160
 all_goals go_wp2
 all_goals go_ret
 all_goals exact⟨rfl,rfl⟩
theorem and_one_u64 (s:Int)(h0:0≤s)(t:s<18446744073709551616):bits BinOp.and IntKind.u64 s 1=s%2:=by
 obtain⟨a,rfl⟩:∃a:Nat,s=(a:Int):=⟨s.toNat,by omega⟩;have u:a &&& 1=a%2:=Nat.and_one_is_mod a
 have t:(BitVec.ofInt 64 (a:Int)).toNat=a:=by
  rw[BitVec.ofInt_natCast,BitVec.toNat_ofNat];exact fC (by omega)
 have s:(BitVec.ofInt 64 ((1:Nat):Int)).toNat=1:=by
  rw[BitVec.ofInt_natCast,BitVec.toNat_ofNat]
 show IntKind.u64.wrap ((BitVec.ofInt 64 (a:Int) &&& BitVec.ofInt 64 ((1:Nat):Int)).toNat:Int)=_;rw[BitVec.toNat_and,t,s,u];have:((a%2:Nat):Int)%2 ^ 64=((a%2:Nat):Int):=Int.emod_eq_of_lt (by omega) (by omega);simp only[IntKind.wrap,IntKind.bits,IntKind.signed,this];simp
def ik (n:Nat):Nat:=if 6≤n then 64 else 2 ^ n
theorem yu (n:Nat)(t:n≤16)(w:World):Calls Tryz.prog 161 #[.int .i64 (n:Int)] w fun e s=>e=.returned (.int .u64 (2 ^ ik n-1))∧w=s:=by
 have h:n=0∨n=1∨n=2∨n=3∨n=4∨n=5∨n=6∨n=7∨n=8∨n=9∨n=10∨n=11∨n=12∨n=13∨n=14∨n=15∨n=16:=by omega
 rcases h with rfl|rfl|rfl|rfl|rfl|rfl|rfl|rfl|rfl|rfl|rfl|rfl|rfl|rfl|rfl|rfl|rfl;all_goals go_enter Tryz.func161,Tryz.ntmps161
 all_goals go_wp2
 all_goals go_ret
 all_goals exact⟨rfl,rfl⟩
theorem qW {a k:Nat}(u:a<2 ^ 64)(s:k≤64):a &&& (2 ^ 64-(2 ^ k-1+1))=0↔a<2 ^ k:=by
 have t:0<2 ^ k:=iC (by decide);have t:2 ^ k≤2 ^ 64:=cJ (by decide) s;have hm:2 ^ k-1<2 ^ 64:=by omega
 have s:∀i,(a &&& (2 ^ 64-(2 ^ k-1+1))).testBit i=(a.testBit i&&(decide (i<64)&&!decide (i<k))):=fun i=>by
  rw[Nat.testBit_and,Nat.testBit_two_pow_sub_succ hm,Nat.testBit_two_pow_sub_one]
 constructor
 ·intro h;apply Nat.lt_pow_two_of_testBit;intro i hi;by_cases t:i<64
  ·have:=s i;rw[h,Nat.zero_testBit,bM t,bQ (show¬i<k by omega)]at this;simpa using this.symm
  ·exact Nat.testBit_lt_two_pow (dz u (cJ (by decide) (by omega)))
 ·intro h;apply Nat.eq_of_testBit_eq;intro i;rw[s i,Nat.zero_testBit];by_cases hi:i<k;·rw[bM hi];simp
  ·rw[Nat.testBit_lt_two_pow (dz h (cJ (by decide) (by omega)))];simp
theorem qV {x:Int}(k:Nat)(h0:0≤x)(Q:x<2 ^ 64)(u:k≤64):(bits BinOp.andNot IntKind.u64 x (2 ^ k-1)==0)=decide (x<2 ^ k):=by
 obtain⟨a,rfl⟩:∃a:Nat,x=(a:Int):=⟨x.toNat,by omega⟩;have I:0<2 ^ k:=iC (by decide);have J:2 ^ k≤2 ^ 64:=cJ (by decide) u;have z:(2:Int) ^ k=((2 ^ k:Nat):Int):=by push_cast;rfl
 have t:a<2 ^ 64:=by
  have D:(2:Nat) ^ 64=18446744073709551616:=rfl;have Q:(2:Int) ^ 64=18446744073709551616:=rfl;omega
 have s:=qW t u;rw[z];obtain⟨q,N⟩:∃q,q=2 ^ k:=⟨_,rfl⟩;rw[←N]at I J s ⊢;have E:((q:Int)-1)=((q-1:Nat):Int):=by omega
 have D:(2:Nat) ^ 64=18446744073709551616:=rfl
 have u:∀c:Nat,c<2 ^ 64→(BitVec.ofInt 64 (c:Int)).toNat=c:=fun c z=>by
  rw[BitVec.ofInt_natCast,BitVec.toNat_ofNat];exact fC z
 have O:bits BinOp.andNot IntKind.u64 (a:Int) ((q:Int)-1)=((a &&& (2 ^ 64-(q-1+1)):Nat):Int):=by
  rw[E];show IntKind.u64.wrap ((BitVec.ofInt 64 (a:Int) &&& ~~~(BitVec.ofInt 64 ((q-1:Nat):Int))).toNat:Int)=_;rw[BitVec.toNat_and,BitVec.toNat_not,u a t,u (q-1) (by omega),show 2 ^ 64-1-(q-1)=2 ^ 64-(q-1+1) by omega];have t:a &&& (2 ^ 64-(q-1+1))≤a:=Nat.and_le_left;have:((a &&& (2 ^ 64-(q-1+1)):Nat):Int)%2 ^ 64=((a &&& (2 ^ 64-(q-1+1)):Nat):Int):=Int.emod_eq_of_lt (by omega) (by omega);simp only[IntKind.wrap,IntKind.bits,IntKind.signed,this];simp
 rw[O];by_cases h:a<q
 ·rw[s.2 h,bM (show(a:Int)<(q:Int) by omega)];rfl
 ·have t:¬(a &&& (2 ^ 64-(q-1+1)))=0:=fun e=>h (s.1 e);rw[bQ (show¬(a:Int)<(q:Int) by omega)];simp only[beq_eq_false_iff_ne,ne_eq];omega
theorem pK (n:Int)(D:Option Addr)(len cap:Nat)(ws:List Int)(w:World)(ax:ws.length=len)(a':len≤1048576)(Z:bq w D ws) :
  Calls Tryz.prog 97 #[.agg #[.int .i64 n,.slice D len cap]] w fun e a8=>e=.returned (.bool (eI n ws))∧ae w a8:=by
 have J:(w.alloc (.cells #[.int .i64 n,.slice D len cap] 105)).cell? ⟨w.heap.size,0,none⟩=some (.int .i64 n):=by simp[go_sem]
 have N:(w.alloc (.cells #[.int .i64 n,.slice D len cap] 105)).cell? ⟨w.heap.size,1,none⟩=some (.slice D len cap):=by simp[go_sem]
 have Q:ae w (w.alloc (.cells #[.int .i64 n,.slice D len cap] 105)):=(ae.refl _).alloc _
 have E:=fun(U:World)=>yw n U
 by_cases h0:0≤n∧n≤16
 ·rw[bM h0]at E;obtain⟨s,rfl⟩:∃s:Nat,n=(s:Int):=⟨n.toNat,by omega⟩;have W:=fun(U:World)=>yx s (by omega) U;have ad:=fun(U:World)=>yu s (by omega) U;obtain⟨wd,X⟩:∃wd,wd=max 1 (2 ^ s / 64):=⟨_,rfl⟩;rw[←X]at W;have U:1≤wd:=by omega
  obtain⟨t,u⟩:∃t,t=w.alloc (.cells #[.int .i64 (s:Int),.slice D len cap] 105):=⟨_,rfl⟩;rw[←u]at J N Q;by_cases Y:len=wd
  ·obtain⟨x,al⟩:∃b,ws[0]?=some b:=⟨_,aQ (by omega)⟩;obtain⟨⟨a9,a3⟩,b,off,rfl,av⟩:=(Z.U Q) 0 x al;rw[gH]at av
   have a7:ik s≤64:=by
    unfold ik;split;·exact aI _
    ·have:2 ^ s≤2 ^ 6:=cJ (by decide) (by omega);have U:(2:Nat) ^ 6=64:=rfl;omega
   have am:=qV (ik s) a9 a3 a7
   have ah:eI (s:Int) ws=decide (x<2 ^ ik s):=by
    have a6:ws.getD 0 0=x:=(by rw[fU,al];rfl);unfold eI ik;rw[bM h0,bG,ax,←X,bM Y,a6,Bool.true_and,Bool.true_and];by_cases U:6≤s;·rw[ai U,bM (show 6≤(s:Int)∨_ from .inl (by omega)),bM a3]
    ·rw[ag U];congr 1
     simp only[eq_iff_iff];exact⟨fun O=>by rcases O with O|O;omega;exact O,fun O=>.inr O⟩
   obtain⟨O,aw⟩:∃O:Int,O=2 ^ ik s-1:=⟨_,rfl⟩;rw[←aw]at ad am;obtain⟨r,ay⟩:∃r,r=decide (x<2 ^ ik s):=⟨_,rfl⟩;rw[←ay]at am ah;rw[ah];have T:=aa E;have ab:=aa W;have a4:=aa ad;have I:=aa u;clear E W ad u Z al ah aw ay X J N;subst Y;have J:t.cell? ⟨w.heap.size,0,none⟩=some (.int .i64 (s:Int)):=(by rw[I.out];simp[go_sem]);have N:t.cell? ⟨w.heap.size,1,none⟩=some (.slice (some ⟨b,off,none⟩) len cap):=(by rw[I.out];simp[go_sem]);go_enter Tryz.func97,Tryz.ntmps97;go_wp2_with fail;rw[←I.out];have a0:=au.cell J;have a1:=au.cell N;have O:=au.cell av;refine eJ (t) (by kernel_rfl) (by kernel_rfl) kp ?_;(repeat (go_big_quiet_step ((first|(go_at_call 159;with_reducible refine Calls.c6 (T.out _))|(go_at_call 160;with_reducible refine Calls.c6 (ab.out _))|(go_at_call 161;with_reducible refine Calls.c6 (a4.out _))))));refine wpQuiet_nil ?_;rintro a2 ⟨⟨_,V⟩,rfl⟩;try dsimp only
   go_wp2_with fail;go_ret;exact⟨rfl,Q.trans V⟩
  ·have z:eI (s:Int) ws=false:=by
    cases z:eI (s:Int) ws with
    |false=>rfl
    |true=>
     have:=(iQ.1 z).2.1;rw[bG,←X,ax]at this;exact absurd this Y
   rw[z];have a5:¬(len:Int)=(wd:Int):=(by omega);have s:((len:Int)==(wd:Int))=false:=(by simp[a5]);have s:(len==wd)=false:=(by simp[Y]);have T:=aa E;have ab:=aa W;have I:=aa u;clear E W u Z z X;go_enter Tryz.func97,Tryz.ntmps97;go_wp2_with fail;rw[←I.out];have a0:=au.cell J;have a1:=au.cell N;refine eJ (t) (by kernel_rfl) (by kernel_rfl) kp ?_;(repeat (go_big_quiet_step ((first|(go_at_call 159;with_reducible refine Calls.c6 (T.out _))|(go_at_call 160;with_reducible refine Calls.c6 (ab.out _))))));refine wpQuiet_nil ?_;rintro a2 ⟨⟨_,V⟩,rfl⟩;try dsimp only
   go_wp2_with fail;go_ret;exact⟨rfl,Q.trans V⟩
 ·rw[bQ h0]at E
  have z:eI n ws=false:=by
   cases z:eI n ws with
   |false=>rfl
   |true=>exact absurd (iQ.1 z).1 h0
  obtain⟨t,u⟩:∃t,t=w.alloc (.cells #[.int .i64 n,.slice D len cap] 105):=⟨_,rfl⟩;rw[←u]at J N Q;rw[z];have T:=aa E;have I:=aa u;clear E u Z z h0;go_enter Tryz.func97,Tryz.ntmps97;go_wp2_with fail;rw[←I.out];have a0:=au.cell J;have a1:=au.cell N;refine eJ (t) (by kernel_rfl) (by kernel_rfl) kp ?_;(repeat (go_big_quiet_step ((first|(go_at_call 159;with_reducible refine Calls.c6 (T.out _))))));refine wpQuiet_nil ?_;rintro a2 ⟨⟨_,V⟩,rfl⟩;try dsimp only
  go_wp2_with fail;go_ret;exact⟨rfl,Q.trans V⟩
theorem yv (n x:Nat)(J:Option Addr)(len cap:Nat)(ws:List Int)(w:World)(z:ws.length=len)(X:len≤1048576)(u:bq w J ws)(D:eI (n:Int) ws=true)(O:x<2 ^ n) :
  Calls Tryz.prog 162 #[.agg #[.int .i64 (n:Int),.slice J len cap],.int .i64 (x:Int)] w fun e Z=>e=.returned (.bool (hasB ws x))∧ae w Z:=by
 obtain⟨h0,t,U⟩:=iQ.1 D
 rw[bG,z]at t
 have J:2 ^ n≤2 ^ 16:=cJ (by decide) (by omega)
 have J:(2:Nat) ^ 16=65536:=rfl
 have s:2 ^ n≤64∨∃k,2 ^ n=64*k:=by
  by_cases J:n≤6
  ·left;have:2 ^ n≤2 ^ 6:=cJ (by decide) J;exact this
  ·right;refine⟨2 ^ (n-6),?_⟩;rw[show(64:Nat)=2 ^ 6 from rfl,←Nat.pow_add];congr 1
   omega
 have J:x / 64<len:=by
  rcases s with s|⟨k,s⟩;·omega
  ·rw[s]at O t;have:64*k / 64=k:=(by omega);omega
 obtain⟨v,I⟩:∃b,ws[x / 64]?=some b:=⟨_,aQ (by omega)⟩
 obtain⟨⟨Q,ab⟩,b,off,rfl,V⟩:=u (x / 64) v I
 have E:=fun(s:World) (J:ae w s)=>pK (n:Int) (some ⟨b,off,none⟩) len cap ws s z X (u.U J)
 rw[D]at E
 have N:hasB ws x=(v / 2 ^ (x%64)%2==1):=by
  unfold hasB;rw[fU,I];rfl
 have s:0≤v / 2 ^ (x%64):=Int.ediv_nonneg Q (Int.le_of_lt (Int.pow_pos (by decide)))
 have J:v / 2 ^ (x%64)≤v:=Int.ediv_le_self _ Q
 have hand:=and_one_u64 (v / 2 ^ (x%64)) s (by omega)
 rw[N]
 have s:(x:Int)<2 ^ n:=by exact_mod_cast O
 have s:=m6 (x:=(n:Int)) (by omega)
 rw[bG]at s
 have T:=aa E
 have s:(0:Int)≤(x:Int):=by omega
 have s:x≤65536:=by omega
 clear E u D t U I N z
 go_enter Tryz.func162,Tryz.ntmps162
 go_wp2_with fail
 refine(T.out _ kp).mono ?_
 rintro e w1 ⟨rfl,s⟩
 have t:=s.I (a:=⟨w.heap.size,0,none⟩) (v:=.int .i64 (n:Int))
 have t:=s.I (a:=⟨w.heap.size,1,none⟩) (v:=.slice (some ⟨b,off,none⟩) len cap)
 have W:=(((ae.refl w).alloc (.cells #[.int .i64 (n:Int),.slice (some ⟨b,off,none⟩) len cap] 105)).trans s).cell V
 have Y:=s.size
 simp only[ak]at Y
 have s:b<w1.heap.size:=aJ W
 have s:w.heap.size<w1.heap.size:=by omega
 go_wp2_with fail
 go_ret
 exact⟨rfl,kp⟩
end Go.Proofs.YtafkamlhimkbmaaGreat
