/-
  Plainly: assignments under an order of the variables; what a step makes of them.
-/
import Derived.Test.YtpgcbmbnognieaaGreatPSiftE
import Derived.Test.YtpgcbmbnognieaaGreatPSwapP
namespace Go.Proofs.YtpgcbmbnognieaaGreat
set_option maxRecDepth 1000000
set_option maxHeartbeats 8000000
set_option linter.unusedSimpArgs false
set_option linter.unusedVariables false

def vb (X:Nat)(v:Int):Nat:=if bitB (X:Int) v=true then 1 else 0

theorem vb_le (X:Nat)(v:Int):vb X v≤1:=by unfold vb;split<;>decide

def upN (X:Nat):List Int→Nat
 | []=>0
 | v::ps=>vb X v+2*upN X ps

def dnN (X:Nat):List Int→Nat
 | []=>0
 | v::ps=>vb X v*2 ^ ps.length+dnN X ps

theorem dnN_lt (X:Nat):∀ ps:List Int,dnN X ps<2 ^ ps.length:=by
 intro ps
 induction ps with
 | nil=>exact Nat.one_pos
 | cons v ps ih=>
  have:=vb_le X v
  have e2:2 ^ (v::ps).length=2 ^ ps.length*2:=by rw [List.length_cons,Nat.pow_succ]
  show vb X v*2 ^ ps.length+dnN X ps<_
  rw [e2]
  rcases Nat.le_one_iff_eq_zero_or_eq_one.1 this with h|h
  ·rw [h];omega
  ·rw [h];omega

theorem rv_dnN (X:Nat):∀ (ps:List Int) (m:Nat),rv (dnN X ps) ps.length m=2 ^ m*(upN X ps:Int):=by
 intro ps
 induction ps with
 | nil=>intro m;show(0:Int)=2 ^ m*((0:Nat):Int);simp
 | cons v ps ih=>
  intro m
  have hl:=dnN_lt X ps
  have hp:0<2 ^ ps.length:=Nat.pow_pos (by decide)
  show(if(vb X v*2 ^ ps.length+dnN X ps) / 2 ^ ps.length%2=1 then(2:Int) ^ m else 0)+rv ((vb X v*2 ^ ps.length+dnN X ps)%2 ^ ps.length) ps.length (m+1)=2 ^ m*((vb X v+2*upN X ps:Nat):Int)
  have e1:(vb X v*2 ^ ps.length+dnN X ps) / 2 ^ ps.length=vb X v:=by
   rw [Nat.mul_comm,Nat.mul_add_div hp,Nat.div_eq_of_lt hl,Nat.add_zero]
  have e2:(vb X v*2 ^ ps.length+dnN X ps)%2 ^ ps.length=dnN X ps:=by
   rw [Nat.mul_comm,Nat.mul_add_mod,Nat.mod_eq_of_lt hl]
  rw [e1,e2,ih]
  have h1:=vb_le X v
  rw [Int.pow_succ]
  rcases Nat.le_one_iff_eq_zero_or_eq_one.1 h1 with h|h
  ·rw [h,if_neg (by decide)]
   push_cast
   rw [Int.mul_assoc,Int.zero_add,Int.zero_add]
  ·rw [h,if_pos (by decide)]
   push_cast
   rw [Int.mul_assoc,Int.mul_add]
   omega

theorem bitB_testBit (y j:Nat):bitB (y:Int) (j:Int)=y.testBit j:=by
 rw [bitB_nat,Nat.testBit_eq_decide_div_mod_eq]

theorem upN_bit (X:Nat):∀ (ps:List Int) (j:Nat),(upN X ps).testBit j=match ps[j]? with|some v=>bitB (X:Int) v|none=>false:=by
 intro ps
 induction ps with
 | nil=>intro j;show(0:Nat).testBit j=_;simp
 | cons v ps ih=>
  intro j
  show(vb X v+2*upN X ps).testBit j=_
  cases j with
  | zero=>
   rw [Nat.testBit_zero]
   show decide ((vb X v+2*upN X ps)%2=1)=bitB (X:Int) v
   unfold vb
   cases bitB (X:Int) v with
   | true=>rw [if_pos rfl];exact decide_eq_true (by omega)
   | false=>rw [if_neg (by simp)];exact decide_eq_false (by omega)
  | succ j=>
   rw [Nat.testBit_succ]
   have e:(vb X v+2*upN X ps) / 2=upN X ps:=by have:=vb_le X v;omega
   rw [e,ih]
   rfl

theorem swB_step {ps:List Int}{i:Nat}(h:i+1<ps.length)(X:Nat):SwB (i:Int) (upN X (stepL ps i):Int) (upN X ps:Int):=by
 have key:∀ j:Nat,bitB (upN X (stepL ps i):Int) (j:Int)=match (if j=i then ps[i+1]? else if j=i+1 then ps[i]? else ps[j]?) with|some v=>bitB (X:Int) v|none=>false:=fun j=>by
  rw [bitB_testBit,upN_bit,stepL_get h]
 have key2:∀ j:Nat,bitB (upN X ps:Int) (j:Int)=match ps[j]? with|some v=>bitB (X:Int) v|none=>false:=fun j=>by
  rw [bitB_testBit,upN_bit]
 refine⟨?_,?_,fun j h0 h1 h2=>?_⟩
 ·rw [key i,if_pos rfl,show(i:Int)+1=((i+1:Nat):Int) by push_cast;rfl,key2]
 ·rw [show(i:Int)+1=((i+1:Nat):Int) by push_cast;rfl,key (i+1),if_neg (by omega),if_pos rfl,key2]
 ·obtain⟨j,rfl⟩:∃ k:Nat,j=(k:Int):=⟨j.toNat,by omega⟩
  rw [key j,if_neg (by omega),if_neg (by omega),key2]

def tabP (M:St)(ps:List Int)(f:Int)(e:Edge):List Bool:=(List.range (2 ^ ps.length)).map (fun X=>tv M f (upN X ps:Int) 0 e)

theorem tabP_len (M:St)(ps:List Int)(f:Int)(e:Edge):(tabP M ps f e).length=2 ^ ps.length:=by unfold tabP;simp

theorem tabP_get {M:St}{ps:List Int}{f:Int}{e:Edge}{X:Nat}(h:X<2 ^ ps.length):(tabP M ps f e)[X]?=some (tv M f (upN X ps:Int) 0 e):=by
 unfold tabP
 simp [h]

theorem tabP_ext {M M':St}(h:M.wf)(hE:Ext M M'){ps:List Int}{f:Int}{e:Edge}(hl:M.leads f e 0=true):tabP M' ps f e=tabP M ps f e:=by
 unfold tabP
 refine List.map_congr_left fun X _=>?_
 exact tv_ext h hE (Weak.of hl)

theorem tabE_dnN {M:St}{ps:List Int}{f:Int}{e:Edge}(hn:M.n=(ps.length:Int))(X:Nat):(tabE M f e 0)[dnN X ps]?=some (tv M f (upN X ps:Int) 0 e):=by
 unfold tabE
 rw [show(M.n-0).toNat=ps.length by omega]
 show(tabX _ ps.length 0 0)[dnN X ps]?=_
 rw [tabX_at _ _ _ _ (dnN_lt X ps),rv_dnN]
 simp

theorem GoodS.tabP {lv:Nat}{f:Int}{M:St}{e x:Edge}(h:GoodS (lv:Int) f M e 0 x){ps:List Int}(hlv:lv+1<ps.length):tabP M (stepL ps lv) f x=tabP M ps f e:=by
 unfold Go.Proofs.YtpgcbmbnognieaaGreat.tabP
 rw [stepL_len]
 exact List.map_congr_left fun X _=>h.means _ _ (swB_step hlv X)

def numL:List Bool→Nat
 | []=>0
 | b::l=>(if b then 1 else 0)+2*numL l

theorem numL_lt:∀ l:List Bool,numL l<2 ^ l.length:=by
 intro l
 induction l with
 | nil=>decide
 | cons b l ih=>
  show(if b then 1 else 0)+2*numL l<2 ^ (l.length+1)
  rw [Nat.pow_succ]
  cases b<;>simp<;>omega

def setOkB (n:Int)(ws:List Int):Bool:=decide (0≤n∧n≤16)&&(decide (ws.length=max 1 (2 ^ n.toNat / 64))&&decide (6≤n∨ws.getD 0 0<2 ^ 2 ^ n.toNat))

def hasB (ws:List Int)(x:Nat):Bool:=ws.getD (x / 64) 0 / 2 ^ (x%64)%2==1

theorem setOkB_iff {n:Int}{ws:List Int}:setOkB n ws=true↔(0≤n∧n≤16)∧ws.length=max 1 (2 ^ n.toNat / 64)∧(6≤n∨ws.getD 0 0<2 ^ 2 ^ n.toNat):=by
 unfold setOkB
 rw [Bool.and_eq_true,Bool.and_eq_true,decide_eq_true_eq,decide_eq_true_eq,decide_eq_true_eq]

def wordsL (ts:List Bool):List Int:=(List.range ((ts.length+63) / 64)).map (fun w=>(numL ((ts.drop (64*w)).take 64):Int))

theorem wordsL_len (ts:List Bool):(wordsL ts).length=(ts.length+63) / 64:=by unfold wordsL;simp

theorem wordsL_get {ts:List Bool}{w:Nat}(h:w<(ts.length+63) / 64):(wordsL ts).getD w 0=(numL ((ts.drop (64*w)).take 64):Int):=by
 unfold wordsL
 rw [List.getD_eq_getElem?_getD,List.getElem?_map,List.getElem?_range h]
 rfl

theorem words_max:∀ n:Nat,n≤16→(2 ^ n+63) / 64=max 1 (2 ^ n / 64):=by decide

theorem setOkB_words {ts:List Bool}{n:Nat}(hn:n≤16)(hl:ts.length=2 ^ n):setOkB (n:Int) (wordsL ts)=true:=by
 have hp:0<2 ^ n:=Nat.pow_pos (by decide)
 refine setOkB_iff.2 ⟨by omega,by rw [wordsL_len,hl,Int.toNat_natCast];exact words_max n hn,?_⟩
 by_cases h6:6≤n
 ·exact .inl (by omega)
 ·right
  rw [wordsL_get (by omega),Int.toNat_natCast]
  have h1:=numL_lt ((ts.drop (64*0)).take 64)
  have h2:((ts.drop (64*0)).take 64).length≤2 ^ n:=by rw [List.length_take,List.length_drop];omega
  have h3:2 ^ ((ts.drop (64*0)).take 64).length≤2 ^ 2 ^ n:=Nat.pow_le_pow_right (by decide) h2
  exact_mod_cast Nat.lt_of_lt_of_le h1 h3

def bldT (has:Nat→Bool):List Int→Nat→List Bool
 | [],x=>[has x]
 | v::vs,x=>bldT has vs x++bldT has vs (x ||| 2 ^ v.toNat)

theorem bldT_len (has:Nat→Bool):∀ (vs:List Int) (x:Nat),(bldT has vs x).length=2 ^ vs.length:=by
 intro vs
 induction vs with
 | nil=>intro x;rfl
 | cons v vs ih=>intro x;show(bldT has vs x++bldT has vs _).length=2 ^ (vs.length+1);rw [List.length_append,ih,ih,Nat.pow_succ];omega

def putV (X:Nat):List Int→Nat→Nat
 | [],x=>x
 | v::vs,x=>putV X vs (if bitB (X:Int) v=true then x ||| 2 ^ v.toNat else x)

theorem bldT_dnN (has:Nat→Bool)(X:Nat):∀ (vs:List Int) (x:Nat),(bldT has vs x)[dnN X vs]?=some (has (putV X vs x)):=by
 intro vs
 induction vs with
 | nil=>intro x;rfl
 | cons v vs ih=>
  intro x
  show(bldT has vs x++bldT has vs (x ||| 2 ^ v.toNat))[vb X v*2 ^ vs.length+dnN X vs]?=some (has (putV X vs _))
  have hlt:=dnN_lt X vs
  unfold vb
  by_cases hb:bitB (X:Int) v=true
  ·rw [if_pos hb,if_pos hb,List.getElem?_append_right (by rw [bldT_len];omega),bldT_len,show 1*2 ^ vs.length+dnN X vs-2 ^ vs.length=dnN X vs from by omega]
   exact ih _
  ·rw [if_neg hb,if_neg hb,List.getElem?_append_left (by rw [bldT_len];omega),show 0*2 ^ vs.length+dnN X vs=dnN X vs from by omega]
   exact ih _

theorem putV_bit (X:Nat):∀ (vs:List Int) (x j:Nat),(∀ v∈vs,0≤v)→(putV X vs x).testBit j=(x.testBit j||(decide ((j:Int)∈vs)&&X.testBit j)):=by
 intro vs
 induction vs with
 | nil=>intro x j _;simp [putV]
 | cons v vs ih=>
  intro x j h
  have h0:=h v (by simp)
  show(putV X vs _).testBit j=_
  rw [ih _ j (fun u hu=>h u (by simp [hu]))]
  obtain⟨V,rfl⟩:∃ V:Nat,v=(V:Int):=⟨v.toNat,by omega⟩
  rw [bitB_testBit,Int.toNat_natCast]
  by_cases hj:j=V
  ·subst hj
   cases hX:X.testBit j<;>simp [Nat.testBit_or,Nat.testBit_two_pow]
  ·have hne:¬V=j:=fun e=>hj e.symm
   have hne2:¬(j:Int)=(V:Int):=by omega
   cases hX:X.testBit V
   ·simp [hne2]
   ·simp [hne2,Nat.testBit_or,Nat.testBit_two_pow,hne]

theorem putV_all {X:Nat}{ps:List Int}(hp:permB ps=true)(hX:X<2 ^ ps.length):putV X ps 0=X:=by
 obtain⟨h1,h2,h3⟩:=permB_iff.1 hp
 apply Nat.eq_of_testBit_eq
 intro j
 rw [putV_bit X ps 0 j (fun v hv=>(h2 v hv).1)]
 by_cases hj:j<ps.length
 ·have:(j:Int)∈ps:=(permB_perm.1 hp).2.symm.subset (mem_numsI.2 ⟨by omega,by omega⟩)
  simp [this]
 ·have:X.testBit j=false:=Nat.testBit_lt_two_pow (Nat.lt_of_lt_of_le hX (Nat.pow_le_pow_right (by decide) (by omega)))
  simp [this]

open Go.RowKit

theorem setMay_calls (n:Int)(w:World):Calls Tryz.prog 203 #[.int .i64 n] w fun e w'=>e=.returned (.bool (decide (0≤n∧n≤16)))∧w=w':=by
 by_cases h0:0≤n
 ·by_cases h1:n≤16
  ·rw [decide_eq_true (show 0≤n∧n≤16 from⟨h0,h1⟩)]
   go_enter Tryz.func203,Tryz.ntmps203
   go_wp2
   go_ret
   exact⟨rfl,rfl⟩
  ·rw [decide_eq_false (show ¬(0≤n∧n≤16) from fun h=>h1 h.2)]
   go_enter Tryz.func203,Tryz.ntmps203
   go_wp2
   go_ret
   exact⟨rfl,rfl⟩
 ·rw [decide_eq_false (show ¬(0≤n∧n≤16) from fun h=>h0 h.1)]
  go_enter Tryz.func203,Tryz.ntmps203
  go_wp2
  go_ret
  exact⟨rfl,rfl⟩

theorem setWords_calls (n:Nat)(hn:n≤16)(w:World):Calls Tryz.prog 204 #[.int .i64 (n:Int)] w fun e w'=>e=.returned (.int .i64 ((max 1 (2 ^ n / 64):Nat):Int))∧w=w':=by
 have h:n=0∨n=1∨n=2∨n=3∨n=4∨n=5∨n=6∨n=7∨n=8∨n=9∨n=10∨n=11∨n=12∨n=13∨n=14∨n=15∨n=16:=by omega
 rcases h with rfl|rfl|rfl|rfl|rfl|rfl|rfl|rfl|rfl|rfl|rfl|rfl|rfl|rfl|rfl|rfl|rfl
 all_goals go_enter Tryz.func204,Tryz.ntmps204
 all_goals go_wp2
 all_goals go_ret
 all_goals exact⟨rfl,rfl⟩

theorem and_one_u64 (E:Int)(h0:0≤E)(h1:E<18446744073709551616):bits BinOp.and IntKind.u64 E 1=E%2:=by
 obtain⟨a,rfl⟩:∃ a:Nat,E=(a:Int):=⟨E.toNat,by omega⟩
 have hx2:a &&& 1=a%2:=Nat.and_one_is_mod a
 have h1:(BitVec.ofInt 64 (a:Int)).toNat=a:=by
  rw [BitVec.ofInt_natCast,BitVec.toNat_ofNat];exact Nat.mod_eq_of_lt (by omega)
 have h2:(BitVec.ofInt 64 ((1:Nat):Int)).toNat=1:=by
  rw [BitVec.ofInt_natCast,BitVec.toNat_ofNat]
 show IntKind.u64.wrap ((BitVec.ofInt 64 (a:Int) &&& BitVec.ofInt 64 ((1:Nat):Int)).toNat:Int)=_
 rw [BitVec.toNat_and,h1,h2,hx2]
 have:((a%2:Nat):Int)%2 ^ 64=((a%2:Nat):Int):=Int.emod_eq_of_lt (by omega) (by omega)
 simp only [IntKind.wrap,IntKind.bits,IntKind.signed,this]
 simp

def fullK (n:Nat):Nat:=if 6≤n then 64 else 2 ^ n

theorem setFull_calls (n:Nat)(hn:n≤16)(w:World):Calls Tryz.prog 205 #[.int .i64 (n:Int)] w fun e w'=>e=.returned (.int .u64 (2 ^ fullK n-1))∧w=w':=by
 have h:n=0∨n=1∨n=2∨n=3∨n=4∨n=5∨n=6∨n=7∨n=8∨n=9∨n=10∨n=11∨n=12∨n=13∨n=14∨n=15∨n=16:=by omega
 rcases h with rfl|rfl|rfl|rfl|rfl|rfl|rfl|rfl|rfl|rfl|rfl|rfl|rfl|rfl|rfl|rfl|rfl
 all_goals go_enter Tryz.func205,Tryz.ntmps205
 all_goals go_wp2
 all_goals go_ret
 all_goals exact⟨rfl,rfl⟩

theorem andNot_nat {a k:Nat}(ha:a<2 ^ 64)(hk:k≤64):a &&& (2 ^ 64-(2 ^ k-1+1))=0↔a<2 ^ k:=by
 have hp:0<2 ^ k:=Nat.pow_pos (by decide)
 have hp2:2 ^ k≤2 ^ 64:=Nat.pow_le_pow_right (by decide) hk
 have hm:2 ^ k-1<2 ^ 64:=by omega
 have hb:∀ i,(a &&& (2 ^ 64-(2 ^ k-1+1))).testBit i=(a.testBit i&&(decide (i<64)&&!decide (i<k))):=fun i=>by
  rw [Nat.testBit_and,Nat.testBit_two_pow_sub_succ hm,Nat.testBit_two_pow_sub_one]
 constructor
 ·intro h
  apply Nat.lt_pow_two_of_testBit
  intro i hi
  by_cases h64:i<64
  ·have:=hb i
   rw [h,Nat.zero_testBit,decide_eq_true h64,decide_eq_false (show ¬i<k by omega)] at this
   simpa using this.symm
  ·exact Nat.testBit_lt_two_pow (Nat.lt_of_lt_of_le ha (Nat.pow_le_pow_right (by decide) (by omega)))
 ·intro h
  apply Nat.eq_of_testBit_eq
  intro i
  rw [hb i,Nat.zero_testBit]
  by_cases hi:i<k
  ·rw [decide_eq_true hi];simp
  ·rw [Nat.testBit_lt_two_pow (Nat.lt_of_lt_of_le h (Nat.pow_le_pow_right (by decide) (by omega)))];simp

theorem andNot_full {x:Int}(k:Nat)(h0:0≤x)(h1:x<2 ^ 64)(hk:k≤64):(bits BinOp.andNot IntKind.u64 x (2 ^ k-1)==0)=decide (x<2 ^ k):=by
 obtain⟨a,rfl⟩:∃ a:Nat,x=(a:Int):=⟨x.toNat,by omega⟩
 have hp:0<2 ^ k:=Nat.pow_pos (by decide)
 have hp2:2 ^ k≤2 ^ 64:=Nat.pow_le_pow_right (by decide) hk
 have e0:(2:Int) ^ k=((2 ^ k:Nat):Int):=by push_cast;rfl
 have ha:a<2 ^ 64:=by
  have e64:(2:Nat) ^ 64=18446744073709551616:=rfl
  have e64':(2:Int) ^ 64=18446744073709551616:=rfl
  omega
 have hn:=andNot_nat ha hk
 rw [e0]
 obtain⟨q,hq⟩:∃ q,q=2 ^ k:=⟨_,rfl⟩
 rw [← hq] at hp hp2 hn ⊢
 have ec:((q:Int)-1)=((q-1:Nat):Int):=by omega
 have e64:(2:Nat) ^ 64=18446744073709551616:=rfl
 have hof:∀ c:Nat,c<2 ^ 64→(BitVec.ofInt 64 (c:Int)).toNat=c:=fun c hc=>by
  rw [BitVec.ofInt_natCast,BitVec.toNat_ofNat];exact Nat.mod_eq_of_lt hc
 have hr:bits BinOp.andNot IntKind.u64 (a:Int) ((q:Int)-1)=((a &&& (2 ^ 64-(q-1+1)):Nat):Int):=by
  rw [ec]
  show IntKind.u64.wrap ((BitVec.ofInt 64 (a:Int) &&& ~~~(BitVec.ofInt 64 ((q-1:Nat):Int))).toNat:Int)=_
  rw [BitVec.toNat_and,BitVec.toNat_not,hof a ha,hof (q-1) (by omega),show 2 ^ 64-1-(q-1)=2 ^ 64-(q-1+1) by omega]
  have hle:a &&& (2 ^ 64-(q-1+1))≤a:=Nat.and_le_left
  have:((a &&& (2 ^ 64-(q-1+1)):Nat):Int)%2 ^ 64=((a &&& (2 ^ 64-(q-1+1)):Nat):Int):=Int.emod_eq_of_lt (by omega) (by omega)
  simp only [IntKind.wrap,IntKind.bits,IntKind.signed,this]
  simp
 rw [hr]
 by_cases h:a<q
 ·rw [hn.2 h,decide_eq_true (show(a:Int)<(q:Int) by omega)]
  rfl
 ·have hne:¬(a &&& (2 ^ 64-(q-1+1)))=0:=fun e=>h (hn.1 e)
  rw [decide_eq_false (show ¬(a:Int)<(q:Int) by omega)]
  simp only [beq_eq_false_iff_ne,ne_eq]
  omega

theorem setRight_calls (n:Int)(aw:Option Addr)(len cap:Nat)(ws:List Int)(w:World)(hl:ws.length=len)(hlen:len≤1048576)(hW:WordsAt w aw ws) :
  Calls Tryz.prog 151 #[.agg #[.int .i64 n,.slice aw len cap]] w fun e w'=>e=.returned (.bool (setOkB n ws))∧Keeps w w':=by
 have k0:(w.alloc (.cells #[.int .i64 n,.slice aw len cap] 116)).cell? ⟨w.heap.size,0,none⟩=some (.int .i64 n):=by simp [go_sem]
 have k1:(w.alloc (.cells #[.int .i64 n,.slice aw len cap] 116)).cell? ⟨w.heap.size,1,none⟩=some (.slice aw len cap):=by simp [go_sem]
 have kk:Keeps w (w.alloc (.cells #[.int .i64 n,.slice aw len cap] 116)):=(Keeps.refl _).alloc _
 have hmy:=fun(W:World)=>setMay_calls n W
 by_cases h0:0≤n∧n≤16
 ·rw [decide_eq_true h0] at hmy
  obtain⟨N,rfl⟩:∃ N:Nat,n=(N:Int):=⟨n.toNat,by omega⟩
  have hwd:=fun(W:World)=>setWords_calls N (by omega) W
  have hfl:=fun(W:World)=>setFull_calls N (by omega) W
  obtain⟨wd,hwdd⟩:∃ wd,wd=max 1 (2 ^ N / 64):=⟨_,rfl⟩
  rw [← hwdd] at hwd
  have hwd1:1≤wd:=by omega
  obtain⟨W1,hW1⟩:∃ W1,W1=w.alloc (.cells #[.int .i64 (N:Int),.slice aw len cap] 116):=⟨_,rfl⟩
  rw [← hW1] at k0 k1 kk
  by_cases h2:len=wd
  ·obtain⟨x,hx⟩:∃ b,ws[0]?=some b:=⟨_,List.getElem?_eq_getElem (by omega)⟩
   obtain⟨⟨x0,x1⟩,b,off,rfl,hc⟩:=(hW.keeps kk) 0 x hx
   rw [Nat.add_zero] at hc
   have hk64:fullK N≤64:=by
    unfold fullK
    split
    ·exact Nat.le_refl _
    ·have:2 ^ N≤2 ^ 6:=Nat.pow_le_pow_right (by decide) (by omega)
     have e6:(2:Nat) ^ 6=64:=rfl
     omega
   have han:=andNot_full (fullK N) x0 x1 hk64
   have hres:setOkB (N:Int) ws=decide (x<2 ^ fullK N):=by
    have hgd:ws.getD 0 0=x:=by rw [List.getD_eq_getElem?_getD,hx];rfl
    unfold setOkB fullK
    rw [decide_eq_true h0,Int.toNat_natCast,hl,← hwdd,decide_eq_true h2,hgd,Bool.true_and,Bool.true_and]
    by_cases h6:6≤N
    ·rw [if_pos h6,decide_eq_true (show 6≤(N:Int)∨_ from .inl (by omega)),decide_eq_true x1]
    ·rw [if_neg h6]
     congr 1
     simp only [eq_iff_iff]
     exact⟨fun hh=>by rcases hh with hh|hh;omega;exact hh,fun hh=>.inr hh⟩
   obtain⟨fl,hfll⟩:∃ fl:Int,fl=2 ^ fullK N-1:=⟨_,rfl⟩
   rw [← hfll] at hfl han
   obtain⟨r,hr⟩:∃ r,r=decide (x<2 ^ fullK N):=⟨_,rfl⟩
   rw [← hr] at han hres
   rw [hres]
   have HMY:=Lib.hid hmy
   have HWD:=Lib.hid hwd
   have HFL:=Lib.hid hfl
   have HW1:=Lib.hid hW1
   clear hmy hwd hfl hW1 hW hx hres hfll hr hwdd k0 k1
   subst h2
   have k0:W1.cell? ⟨w.heap.size,0,none⟩=some (.int .i64 (N:Int)):=by rw [HW1.out];simp [go_sem]
   have k1:W1.cell? ⟨w.heap.size,1,none⟩=some (.slice (some ⟨b,off,none⟩) len cap):=by rw [HW1.out];simp [go_sem]
   go_enter Tryz.func151,Tryz.ntmps151
   go_wp2_with fail
   rw [← HW1.out]
   have k0k:=KWorld.cell k0
   have k1k:=KWorld.cell k1
   have k2k:=KWorld.cell hc
   refine wp_region_keeps (W1) (by kernel_rfl) (by kernel_rfl) (by(exact kp)) ?_;(repeat (go_big_quiet_step ((first|(go_at_call 203;with_reducible refine Calls.sameK (HMY.out _))|(go_at_call 204;with_reducible refine Calls.sameK (HWD.out _))|(go_at_call 205;with_reducible refine Calls.sameK (HFL.out _))))));refine wpQuiet_nil ?_;rintro wq ⟨⟨_,hkq⟩,rfl⟩;try dsimp only
   go_wp2_with fail
   go_ret
   exact⟨rfl,kk.trans hkq⟩
  ·have hb:setOkB (N:Int) ws=false:=by
    cases hb:setOkB (N:Int) ws with
    | false=>rfl
    | true=>
     have:=(setOkB_iff.1 hb).2.1
     rw [Int.toNat_natCast,← hwdd,hl] at this
     exact absurd this h2
   rw [hb]
   have h2':¬(len:Int)=(wd:Int):=by omega
   have h2b:((len:Int)==(wd:Int))=false:=by simp [h2']
   have h2c:(len==wd)=false:=by simp [h2]
   have HMY:=Lib.hid hmy
   have HWD:=Lib.hid hwd
   have HW1:=Lib.hid hW1
   clear hmy hwd hW1 hW hb hwdd
   go_enter Tryz.func151,Tryz.ntmps151
   go_wp2_with fail
   rw [← HW1.out]
   have k0k:=KWorld.cell k0
   have k1k:=KWorld.cell k1
   refine wp_region_keeps (W1) (by kernel_rfl) (by kernel_rfl) (by(exact kp)) ?_;(repeat (go_big_quiet_step ((first|(go_at_call 203;with_reducible refine Calls.sameK (HMY.out _))|(go_at_call 204;with_reducible refine Calls.sameK (HWD.out _))))));refine wpQuiet_nil ?_;rintro wq ⟨⟨_,hkq⟩,rfl⟩;try dsimp only
   go_wp2_with fail
   go_ret
   exact⟨rfl,kk.trans hkq⟩
 ·rw [decide_eq_false h0] at hmy
  have hb:setOkB n ws=false:=by
   cases hb:setOkB n ws with
   | false=>rfl
   | true=>exact absurd (setOkB_iff.1 hb).1 h0
  obtain⟨W1,hW1⟩:∃ W1,W1=w.alloc (.cells #[.int .i64 n,.slice aw len cap] 116):=⟨_,rfl⟩
  rw [← hW1] at k0 k1 kk
  rw [hb]
  have HMY:=Lib.hid hmy
  have HW1:=Lib.hid hW1
  clear hmy hW1 hW hb h0
  go_enter Tryz.func151,Tryz.ntmps151
  go_wp2_with fail
  rw [← HW1.out]
  have k0k:=KWorld.cell k0
  have k1k:=KWorld.cell k1
  refine wp_region_keeps (W1) (by kernel_rfl) (by kernel_rfl) (by(exact kp)) ?_;(repeat (go_big_quiet_step ((first|(go_at_call 203;with_reducible refine Calls.sameK (HMY.out _))))));refine wpQuiet_nil ?_;rintro wq ⟨⟨_,hkq⟩,rfl⟩;try dsimp only
  go_wp2_with fail
  go_ret
  exact⟨rfl,kk.trans hkq⟩

theorem setHas_calls (n x:Nat)(aw:Option Addr)(len cap:Nat)(ws:List Int)(w:World)(hl:ws.length=len)(hlen:len≤1048576)(hW:WordsAt w aw ws)(hok:setOkB (n:Int) ws=true)(hx:x<2 ^ n) :
  Calls Tryz.prog 206 #[.agg #[.int .i64 (n:Int),.slice aw len cap],.int .i64 (x:Int)] w fun e w'=>e=.returned (.bool (hasB ws x))∧Keeps w w':=by
 obtain⟨h0,h1,h2⟩:=setOkB_iff.1 hok
 rw [Int.toNat_natCast,hl] at h1
 have hp16:2 ^ n≤2 ^ 16:=Nat.pow_le_pow_right (by decide) (by omega)
 have e16:(2:Nat) ^ 16=65536:=rfl
 have h64:2 ^ n≤64∨∃ k,2 ^ n=64*k:=by
  by_cases h6:n≤6
  ·left
   have:2 ^ n≤2 ^ 6:=Nat.pow_le_pow_right (by decide) h6
   exact this
  ·right
   refine⟨2 ^ (n-6),?_⟩
   rw [show(64:Nat)=2 ^ 6 from rfl,← Nat.pow_add]
   congr 1
   omega
 have hxl:x / 64<len:=by
  rcases h64 with h64|⟨k,h64⟩
  ·omega
  ·rw [h64] at hx h1
   have:64*k / 64=k:=by omega
   omega
 obtain⟨v,hv⟩:∃ b,ws[x / 64]?=some b:=⟨_,List.getElem?_eq_getElem (by omega)⟩
 obtain⟨⟨v0,v1⟩,b,off,rfl,hc⟩:=hW (x / 64) v hv
 have hrt:=fun(W:World) (hk:Keeps w W)=>setRight_calls (n:Int) (some ⟨b,off,none⟩) len cap ws W hl hlen (hW.keeps hk)
 rw [hok] at hrt
 have hres:hasB ws x=(v / 2 ^ (x%64)%2==1):=by
  unfold hasB
  rw [List.getD_eq_getElem?_getD,hv]
  rfl
 have hdv0:0≤v / 2 ^ (x%64):=Int.ediv_nonneg v0 (Int.le_of_lt (Int.pow_pos (by decide)))
 have hdv1:v / 2 ^ (x%64)≤v:=Int.ediv_le_self _ v0
 have hand:=and_one_u64 (v / 2 ^ (x%64)) hdv0 (by omega)
 rw [hres]
 have hxn:(x:Int)<2 ^ n:=by exact_mod_cast hx
 have hwp:=wrap_pow (x:=(n:Int)) (by omega)
 rw [Int.toNat_natCast] at hwp
 have HRT:=Lib.hid hrt
 have x0:(0:Int)≤(x:Int):=by omega
 have hx63:x≤65536:=by omega
 clear hrt hW hok h1 h2 hv hres hl
 go_enter Tryz.func206,Tryz.ntmps206
 go_wp2_with fail
 refine(HRT.out _ (by(exact kp))).mono ?_
 rintro e w1 ⟨rfl,hk1⟩
 have q0:=hk1.cell (a:=⟨w.heap.size,0,none⟩) (v:=.int .i64 (n:Int)) (by simp [go_sem])
 have q1:=hk1.cell (a:=⟨w.heap.size,1,none⟩) (v:=.slice (some ⟨b,off,none⟩) len cap) (by simp [go_sem])
 have hc1:=(((Keeps.refl w).alloc (.cells #[.int .i64 (n:Int),.slice (some ⟨b,off,none⟩) len cap] 116)).trans hk1).cell hc
 have hsz:=hk1.size
 simp only [World.size_alloc] at hsz
 have hbl:b<w1.heap.size:=lt_of_cell hc1
 have hwl:w.heap.size<w1.heap.size:=by omega
 go_wp2_with fail
 go_ret
 exact⟨rfl,by(exact kp)⟩

end Go.Proofs.YtpgcbmbnognieaaGreat
