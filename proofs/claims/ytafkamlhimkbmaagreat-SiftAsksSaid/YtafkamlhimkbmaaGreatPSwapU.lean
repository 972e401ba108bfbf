/-
  law17.Unfold and ramageref17.Term of any form (printed by wip/mk_kunf.py).
-/
import Derived.Test.YtafkamlhimkbmaaGreatPSwapP
import Derived.Test.YtafkamlhimkbmaaGreatPTwoA
namespace Go.Proofs.YtafkamlhimkbmaaGreat
set_option maxRecDepth 1000000
set_option maxHeartbeats 8000000
set_option linter.unusedSimpArgs false
set_option linter.unusedVariables false
open Go.RowKit
def fF (f:Int)(k:Nat)(ts:List Bool)(l:Int):ByteArray:=
 if f=1 then iL k ts l else if f=2 then iO k ts l else if f=3 then iM (k+1) k ts l else if f=4 then iN (k+1) k ts l else jL (k+1) k ts l
theorem xU {f:Int}(j:1≤f∧f≤5):f=1∨f=2∨f=3∨f=4∨f=5:=by omega
theorem DX {f:Int}{M:St}(q:M.wf)(z:1≤f∧f≤5){k:Nat}{ts:List Bool}{l:Int}{e:Edge}(h:aJ f M k ts l e)(s:l+(k:Nat)=M.n)(t:0≤l)(m:Nat)(j:k≤m):bR f M (m+1) e=fF f k ts l:=by
 rcases xU z with rfl|rfl|rfl|rfl|rfl;·exact DS q k ts l e h m j
 ·exact DT k ts l e h m j
 ·exact DU q k ts l e h s m k j (aE _)
 ·exact DV q k ts l e h s m k j (aE _)
 ·exact DW q k ts l e h s t m k j (aE _)
def rv:Nat→Nat→Nat→Int
 |_,0,_=>0
 |y,k+1,m=>(if y / 2 ^ k%2=1 then 2 ^ m else 0)+rv (y%2 ^ k) k (m+1)
theorem tV {g:Int→Bool}:∀(k m:Nat) (x:Int) (y:Nat),y<2 ^ k→(ef g k m x)[y]?=some (g (x+rv y k m)):=by
 intro k;induction k with
 |zero=>
  intro m x y j;have:y=0:=by simpa using j
  subst this;show some (g x)=some (g (x+0));rw[Int.add_zero]
 |succ k s=>
  intro m x y j;have t:0<2 ^ k:=eG (by decide);have j:2 ^ (k+1)=2 ^ k+2 ^ k:=by rw[dd];omega
  show(ef g k (m+1) x++ef g k (m+1) (x+2 ^ m))[y]?=some (g (x+((if y / 2 ^ k%2=1 then 2 ^ m else 0)+rv (y%2 ^ k) k (m+1))));have j:=tW g k (m+1) x;by_cases h:y<2 ^ k;·rw[iU (by rw[j];exact h),s _ _ _ h,Nat.div_eq_of_lt h,dT h,ag (by decide),Int.zero_add]
  ·have q:y / 2 ^ k=1:=by
    rw[Nat.div_eq_iff t];omega
   have t:y%2 ^ k=y-2 ^ k:=by
    have:=Nat.div_add_mod y (2 ^ k);rw[q]at this;omega
   rw[jt (by rw[j];omega),j,s _ _ _ (by omega),q,t,ah (by decide),Int.add_assoc]
theorem AN (n:Nat):((2 ^ n:Nat):Int)=2 ^ n:=by push_cast;rfl
theorem Cc (y k m:Nat):rv y (k+1) m=eQ (decide (y / 2 ^ k%2=1))*((2 ^ m:Nat):Int)+rv (y%2 ^ k) k (m+1):=by
 show(if y / 2 ^ k%2=1 then(2:Int) ^ m else 0)+_=_;congr 1
 by_cases h:y / 2 ^ k%2=1
 ·rw[ah h,bc h];show(2:Int) ^ m=1*_;rw[Int.one_mul];push_cast;rfl
 ·rw[ag h,aY h];show(0:Int)=0*_;rw[Int.zero_mul]
theorem sl (y k:Nat):y%2 ^ (k+1) / 2 ^ k%2=y / 2 ^ k%2∧y%2 ^ (k+1)%2 ^ k=y%2 ^ k:=by
 have j:0<2 ^ k:=eG (by decide);constructor;·rw[Nat.mod_pow_succ,Nat.add_mul_div_left _ _ j,Nat.div_eq_of_lt (bU _ j),dK,Nat.mod_mod]
 ·rw[dd,Nat.mod_mul_right_mod]
theorem nT (y k:Nat):ax (y:Int) (k:Int)=decide (y / 2 ^ k%2=1):=by
 unfold ax;rw[cN];congr 1
 have:(y:Int) / 2 ^ k%2=((y / 2 ^ k%2:Nat):Int):=by push_cast;rfl
 rw[this];exact propext ⟨fun h=>by exact_mod_cast h,fun h=>by exact_mod_cast h⟩
theorem vN {x:Int}{m:Nat}(j:0≤x)(h:x<((2 ^ m:Nat):Int)):ax x (m:Int)=false:=by
 unfold ax;rw[cN,←AN,Int.ediv_eq_zero_of_lt j h];rfl
theorem AR (x v b:Int)(w:World)(J:0≤x)(L:x≤65535)(E:0≤v)(I:v≤16)(O:0≤b)(S:b≤1)(N:ax x v=false) :
  Calls Tryz.prog 154 #[.int .i64 x,.int .i64 v,.int .i64 b] w fun e w'=>e=.returned (.int .i64 (x+b*((2 ^ v.toNat:Nat):Int)))∧ae w w':=by
 obtain⟨n,rfl⟩:∃n:Nat,v=(n:Int):=⟨v.toNat,by omega⟩
 have q:=aa (fun(j:World)=>jN x n j J L E I)
 have s:=aa (fun(j:World)=>mU n (by omega) j)
 rw[N]at q
 have A:2 ^ n≤2 ^ 16:=aW (by decide) (by omega)
 have t:(2:Nat) ^ 16=65536:=rfl
 rw[cN]
 obtain⟨p,z⟩:∃p,p=2 ^ n:=⟨_,rfl⟩
 rw[←z]at s A ⊢
 rw[t]at A
 clear z t
 change Hid (∀j,Calls Tryz.prog 43 #[.int .i64 x,.int .i64 n] j fun e w'=>e=.returned (.int .i64 0)∧j=w')at q
 have B:b=0∨b=1:=by omega
 rcases B with rfl|rfl
 ·go_enter Tryz.func154,Tryz.ntmps154;go_wp2_with (first|(go_at_call 43;refine(q.out _).mono ?_;rintro e w' ⟨rfl,rfl⟩)|(go_at_call 29;refine(s.out _).mono ?_;rintro e w' ⟨rfl,rfl⟩)|fail)
  go_ret;exact⟨by simp,ae.refl _⟩
 ·go_enter Tryz.func154,Tryz.ntmps154;go_wp2_with (first|(go_at_call 43;refine(q.out _).mono ?_;rintro e w' ⟨rfl,rfl⟩)|(go_at_call 29;refine(s.out _).mono ?_;rintro e w' ⟨rfl,rfl⟩)|fail)
  go_ret;exact⟨by simp,ae.refl _⟩
theorem Dt {F:Nat→Prop}{w:World}{mb:Nat}{M:St}{ce:List (Int×Rec)}(h:aV F w mb M ce)(f:Int)(cl:1≤f∧f≤5)(e:Edge)(cj:e.ok)(k m:Nat)(bx:(m:Int)+(k:Int)=M.n)(b0:M.leads f e (m:Int)=true) :
  Calls Tryz.prog 93 #[.pointer (some ⟨mb,0,none⟩),.int .u8 f,.agg #[.int .u8 e.tag,.int .u32 e.to],.int .i64 (m:Int)] w fun r w'=>∃Z,r=.returned (.slice (some ⟨Z,0,none⟩) (2 ^ k) (2 ^ k))∧w.heap.size≤Z∧bW w' Z (cm M f e (m:Int))∧ae w w':=by
 have co:=h.wf.bw
 have a6:(cm M f e (m:Int)).length=2 ^ k:=by rw[mW];congr 1;omega
 have a1:∀y,y<2 ^ k→(cm M f e (m:Int))[y]?=some (tv M f (0+rv y k m) (m:Int) e):=fun y b5=>by
  unfold cm;rw[show(M.n-(m:Int)).toNat=k by omega,cN];exact tV k m 0 y b5
 have bt:=fun(x:Int) (A:0≤x) (I:x≤65535) (q:World) (a0:ae w q)=>BL h f x cl A I (M.n-m).toNat (m:Int) e q a0 cj (by omega) (by omega) (by omega) (fun r cp=>by obtain⟨a,b,_⟩:=dY b0 cp;exact⟨a,b⟩)
 obtain⟨ts,N⟩:∃ts,ts=cm M f e (m:Int):=⟨_,rfl⟩
 rw[←N]at a6 a1 ⊢
 have cf:w.cell? ⟨mb,3,none⟩=some (.int .i64 M.n):=h.vars
 have Z:=h.pos
 have b9:=aa bt
 have bq:=aa a6
 have bg:=aa a1
 have Z:=aa bx
 have Z:k≤16:=by omega
 have ce:m≤16:=by omega
 have br:=aa (fun(q:World)=>mU k (by omega) q)
 have X:2 ^ k≤2 ^ 16:=aW (by decide) Z
 have W:(2:Nat) ^ 16=65536:=rfl
 rw[W]at X
 obtain⟨p,a'⟩:∃p,p=2 ^ k:=⟨_,rfl⟩
 rw[←a']at br bq bg X ⊢
 have cb:=aa a'
 obtain⟨n,a7⟩:∃n,n=M.n:=⟨_,rfl⟩
 rw[←a7]at cf co
 have Z:(n-(m:Int))=(k:Int):=by omega
 have Z:m+k≤16:=by omega
 have Z:n≤16:=by omega
 have Z:0≤n:=by omega
 have Z:=aa a7
 obtain⟨cy,cn,cD,cE,cS⟩:=info_parts (show(Tryz.prog.info? 4).map (fun i=>(i.zero,i.size,i.bytes))=some (some (.bool false),1,1) by kernel_rfl)
 clear h a6 a1 bx bt b0 N a' a7 W
 go_enter Tryz.func93,Tryz.ntmps93
 go_wp2_with (first
  |(go_at_call 29;refine(br.out _).mono ?_;rintro av bd ⟨rfl,rfl⟩)
  |(at_make;refine wpList_make_full _ rfl _ _ 62 rfl (w.heap.size+1) 4 cy (.bool false) 1 Tryz.underlying62 cn cD cE .i64 .i64 (p:Int) (p:Int) p rfl rfl rfl rfl (by rw[cS];omega) (by unfold maxLen;omega) (by simp) ?_;intro w1 a8 B)
  |fail)
 simp only[ai]at a8
 have b7:=aa (nX a8)
 have L:ae (w.alloc (.cells #[.int .u8 e.tag,.int .u32 e.to] 52)) w1:=⟨B.os,B.tape,B.output,B.size,fun i hi=>B.block i hi (by simp)⟩
 have Z:=aa L
 have c2:w1.cell? ⟨w.heap.size,0,none⟩=some (.int .u8 e.tag):=L.cell (by simp[go_sem])
 have c3:w1.cell? ⟨w.heap.size,1,none⟩=some (.int .u32 e.to):=L.cell (by simp[go_sem])
 have Z:ae w w1:=((ae.refl _).alloc _).trans L
 have bp:=aa Z
 clear a8 B L Z
 go_loopg [11] p (fun gk B wr=>∃(y:Nat) (z:List Bool),y+gk=p∧B=.int .i64 (y:Int)∧z.length=p∧bW wr (w.heap.size+1) z∧(∀i,i<y→z[i]?=ts[i]?)∧af (fun j=>j=w.heap.size+1) w1 wr)
 case atStart=>exact⟨0,_,by omega,rfl,by simp,b7.out,fun i hi=>by omega,af.refl _ _⟩
 case round=>
  obtain⟨y,z,b5,rfl,Z,B,L,a1⟩:=hrel;have bi:=aa B;have S:=aa Z;have bf:=aa L;have ab:=aa a1;clear B Z L a1;by_cases Y:y<p
  ·obtain⟨ci,bw⟩:∃g,g=gk:=⟨_,rfl⟩;have cx:(y:Int)≤65535:=(by omega);have bn:=aa bw;clear bw;obtain⟨c1,rfl⟩:∃q,q=wr:=⟨wr,rfl⟩;go_wp2_with fail;go_loopg [12,13] k (fun gk B L Z=>∃(j:Nat) (x:Int),j+gk=k∧L=.int .i64 (j:Int)∧B=.int .i64 x∧0≤x∧x<((2 ^ (m+j):Nat):Int)∧Hid (x+rv (y%2 ^ (k-j)) (k-j) (m+j)=rv y k m)∧ae c1 Z)
   case atStart=>
    refine⟨0,0,by omega,rfl,rfl,by omega,?_,aa ?_,ae.refl _⟩
    ·have:0<2 ^ (m+0):=eG (by decide);omega
    ·rw[Nat.sub_zero,gA,dT (by rw[←cb.out];exact Y)];omega
   case round=>
    obtain⟨j,x,c4,rfl,rfl,A,I,U,B⟩:=hrel;have T:=aa B;clear B;by_cases B:j<k
    ·obtain⟨t,b2⟩:∃t,k=j+1+t:=⟨k-(j+1),by omega⟩;have B:(k:Int)-1-(j:Int)=(t:Int):=(by omega);have b1:2 ^ (m+j)≤2 ^ 15:=aW (by decide) (by omega);have bs:(2:Nat) ^ 15=32768:=rfl;rw[bs]at b1;have b6:=vN A I;obtain⟨s,a4⟩:∃s,s=ax (y:Int) (t:Int):=⟨_,rfl⟩;have am:=aa (fun(q:World)=>jN (y:Int) (t:Int) q (by omega) cx (by omega) (by omega));rw[←a4]at am;have a3:0≤eQ s∧eQ s≤1:=by cases s<;>decide
     have ad:=aa (fun(q:World)=>AR x ((m:Int)+(j:Int)) (eQ s) q A (by omega) (by omega) (by omega) a3.1 a3.2 (by rw[show(m:Int)+(j:Int)=((m+j:Nat):Int) by push_cast;rfl];exact b6))
     have bb:x+eQ s*((2 ^ ((m:Int)+(j:Int)).toNat:Nat):Int)<((2 ^ (m+(j+1)):Nat):Int)∧0≤x+eQ s*((2 ^ ((m:Int)+(j:Int)).toNat:Nat):Int)∧x+eQ s*((2 ^ ((m:Int)+(j:Int)).toNat:Nat):Int)+rv (y%2 ^ (k-(j+1))) (k-(j+1)) (m+(j+1))=rv y k m:=by
      rw[show((m:Int)+(j:Int)).toNat=m+j by omega];have B:2 ^ (m+(j+1))=2 ^ (m+j)*2:=(by rw[←Nat.add_assoc,dd]);have L:=U.out;have Z:k-j=t+1:=(by omega);have a1:k-(j+1)=t:=(by omega);rw[Z,Cc,(sl y t).1,(sl y t).2,←nT,←a4]at L;rw[a1,←Nat.add_assoc m j 1];refine⟨?_,?_,by rw[←L,Int.add_assoc]⟩
      ·rw[←Nat.add_assoc]at B;rw[B];push_cast;push_cast at I;cases s
       ·show x+0*_<_;omega
       ·show x+1*_<_;omega
      ·cases s
       ·show 0≤x+0*_;omega
       ·show 0≤x+1*_;omega
     obtain⟨be,b4⟩:∃be,be=x+eQ s*((2 ^ ((m:Int)+(j:Int)).toNat:Nat):Int):=⟨_,rfl⟩;rw[←b4]at bb ad;have al:=aa bb;obtain⟨t,bv⟩:∃t,t=eQ s:=⟨_,rfl⟩;rw[←bv]at am ad;have s:=aa b2;clear bb b4 a4 b6 b1 bs a3 bv A I U b2
     go_wp2_with (first
      |(go_at_call 43;with_reducible refine(am.out _).mono ?_;rintro av bd ⟨rfl,rfl⟩)
      |(go_at_call 154;refine(ad.out _).mono ?_;rintro av bd ⟨rfl,E⟩)
      |fail)
     go_roundg (gk-1)
     case rel=>exact⟨j+1,be,by omega,by simp,rfl,al.out.2.1,al.out.1,aa al.out.2.2,T.out.trans E⟩
     case measure=>omega
    ·obtain rfl:j=k:=by omega
     have b3:x=rv y j m:=by
      have:=U.out;rw[Nat.sub_self]at this;simpa[rv]using this
     have cv:x≤65535:=by
      have X:2 ^ (m+j)≤2 ^ 16:=aW (by decide) (by omega);have W:(2:Nat) ^ 16=65536:=rfl;rw[W]at X;omega
     have bD:ae w wr:=(bp.out.new ab.out (fun i hi=>by omega)).trans T.out;have aw:=fun(q:World) (a0:ae wr q)=>b9.out x A cv q (bD.trans a0);obtain⟨J,a5⟩:∃J,J=hS M f x (M.n-(m:Int)).toNat (m:Int) e:=⟨_,rfl⟩;rw[←a5]at aw
     have N:ts[y]?=some J:=by
      rw[bg.out y Y,Int.zero_add,←b3,a5];rfl
     have ca:=aa aw;have cc:=aa N;have O:=aa (bi.out.a4 (ae.av T.out (fun _=>False)) (fun h=>h));have q:af (fun j=>j=w.heap.size+1) w1 wr:=ab.out.bg (ae.av T.out _);have cd:=aa q;have j:=q.cellAt (b:=w.heap.size) (by omega) c2;have j:=q.cellAt (b:=w.heap.size) (by omega) c3;have cg:=O.out.cell (i:=y) (b:=z[y]'(by rw[S.out];exact Y)) (ar _);have ch:=O.out.frozen y;have c0:=O.out.lt;clear bD aw a5 N q b3 A I U
     go_wp2_with (first
      |(go_at_call 155;with_reducible refine(ca.out _ (ae.refl _)).mono ?_;rintro av bd ⟨rfl,E⟩;have j:=E.cell cg;have q:=E.a3 (a:=⟨w.heap.size+1,y,none⟩) c0 ch)
      |fail)
     go_roundg (ci-1)
     case rel=>exact⟨y+1,z.set y J,by have:=bn.out;omega,by simp,by rw[bZ];exact S.out,(O.out.a4 (ae.av E (fun _=>False)) (fun h=>h)).set y J,fun i hi=>by
      by_cases e:i=y
      ·subst e;rw[gy (by rw[S.out];exact Y)];exact cc.out.symm
      ·rw[fK (fun j=>e j.symm)]
       exact bf.out i (by omega),(cd.out.bg (ae.av E _)).setCell (p:=⟨w.heap.size+1,y,none⟩) (Or.inl rfl) _⟩
     case measure=>have:=bn.out;omega
  ·obtain rfl:y=p:=by omega
   have j:z=ts:=by
    apply List.ext_getElem?;intro i;by_cases hi:i<y;·exact bf.out i hi
    ·rw[cO (by rw[S.out];omega),cO (by rw[bq.out];omega)]
   have b8:=aa j;clear j;go_wp2_with fail;go_ret;exact⟨w.heap.size+1,rfl,by omega,by rw[←b8.out];exact bi.out,bp.out.new ab.out (fun i hi=>by omega)⟩
def vb (j:Nat)(v:Int):Nat:=if ax (j:Int) v=true then 1 else 0
theorem kM (j:Nat)(v:Int):vb j v≤1:=by unfold vb;split<;>decide
def bG (j:Nat):List Int→Nat
 |[]=>0
 |v::ps=>vb j v+2*bG j ps
def bV (j:Nat):List Int→Nat
 |[]=>0
 |v::ps=>vb j v*2 ^ ps.length+bV j ps
theorem jZ (j:Nat):∀ps:List Int,bV j ps<2 ^ ps.length:=by
 intro ps;induction ps with
 |nil=>exact Nat.one_pos
 |cons v ps q=>
  have:=kM j v;have q:2 ^ (v::ps).length=2 ^ ps.length*2:=by rw[dm,dd]
  show vb j v*2 ^ ps.length+bV j ps<_;rw[q];rcases Nat.le_one_iff_eq_zero_or_eq_one.1 this with h|h;·rw[h];omega
  ·rw[h];omega
theorem xy (j:Nat):∀(ps:List Int) (v:Int),bV j (ps++[v])=2*bV j ps+vb j v:=by
 intro ps;induction ps with
 |nil=>intro v;show vb j v*2 ^ 0+0=2*0+vb j v;omega
 |cons a ps q=>
  intro v;show vb j a*2 ^ (ps++[v]).length+bV j (ps++[v])=2*(vb j a*2 ^ ps.length+bV j ps)+vb j v;rw[q,di];show vb j a*2 ^ (ps.length+1)+_=_;rw[dd,←Nat.mul_assoc];omega
theorem Cb (j:Nat):∀(ps:List Int) (m:Nat),rv (bV j ps) ps.length m=2 ^ m*(bG j ps:Int):=by
 intro ps;induction ps with
 |nil=>intro m;show(0:Int)=2 ^ m*((0:Nat):Int);simp
 |cons v ps A=>
  intro m;have q:=jZ j ps;have t:0<2 ^ ps.length:=eG (by decide);show(if(vb j v*2 ^ ps.length+bV j ps) / 2 ^ ps.length%2=1 then(2:Int) ^ m else 0)+rv ((vb j v*2 ^ ps.length+bV j ps)%2 ^ ps.length) ps.length (m+1)=2 ^ m*((vb j v+2*bG j ps:Nat):Int)
  have s:(vb j v*2 ^ ps.length+bV j ps) / 2 ^ ps.length=vb j v:=by
   rw[iW,Nat.mul_add_div t,Nat.div_eq_of_lt q,gA]
  have t:(vb j v*2 ^ ps.length+bV j ps)%2 ^ ps.length=bV j ps:=by
   rw[iW,Nat.mul_add_mod,dT q]
  rw[s,t,A];have z:=kM j v;rw[Int.pow_succ];rcases Nat.le_one_iff_eq_zero_or_eq_one.1 z with h|h
  ·rw[h,ag (by decide)];push_cast;rw[Int.mul_assoc,Int.zero_add,Int.zero_add]
  ·rw[h,ah (by decide)];push_cast;rw[Int.mul_assoc,Int.mul_add];omega
theorem jX (y j:Nat):ax (y:Int) (j:Int)=y.testBit j:=by
 rw[nT,Nat.testBit_eq_decide_div_mod_eq]
theorem pQ (j:Nat):∀(ps:List Int) (q:Nat),(bG j ps).testBit q=match ps[q]? with|some v=>ax (j:Int) v|none=>false:=by
 intro ps;induction ps with
 |nil=>intro q;show(0:Nat).testBit q=_;simp
 |cons v ps s=>
  intro q;show(vb j v+2*bG j ps).testBit q=_;cases q with
  |zero=>
   rw[Nat.testBit_zero];show decide ((vb j v+2*bG j ps)%2=1)=ax (j:Int) v;unfold vb;cases ax (j:Int) v with
   |true=>rw[ah rfl];exact bc (by omega)
   |false=>rw[ag (by simp)];exact aY (by omega)
  |succ q=>
   rw[Nat.testBit_succ];have e:(vb j v+2*bG j ps) / 2=bG j ps:=(by have:=kM j v;omega);rw[e,s];rfl
theorem Dg {ps:List Int}{i:Nat}(h:i+1<ps.length)(q:Nat):qd (i:Int) (bG q (aK ps i):Int) (bG q ps:Int):=by
 have key:∀j:Nat,ax (bG q (aK ps i):Int) (j:Int)=match (if j=i then ps[i+1]? else if j=i+1 then ps[i]? else ps[j]?)with|some v=>ax (q:Int) v|none=>false:=fun j=>by
  rw[jX,pQ,iK h]
 have s:∀j:Nat,ax (bG q ps:Int) (j:Int)=match ps[j]? with|some v=>ax (q:Int) v|none=>false:=fun j=>by
  rw[jX,pQ]
 refine⟨?_,?_,fun j q t z=>?_⟩;·rw[key i,ah rfl,show(i:Int)+1=((i+1:Nat):Int) by push_cast;rfl,s]
 ·rw[show(i:Int)+1=((i+1:Nat):Int) by push_cast;rfl,key (i+1),ag (by omega),ah rfl,s]
 ·obtain⟨j,rfl⟩:∃k:Nat,j=(k:Int):=⟨j.toNat,by omega⟩;rw[key j,ag (by omega),ag (by omega),s]
def tabP (M:St)(ps:List Int)(f:Int)(e:Edge):List Bool:=(List.range (2 ^ ps.length)).map (fun j=>tv M f (bG j ps:Int) 0 e)
theorem pN (M:St)(ps:List Int)(f:Int)(e:Edge):(tabP M ps f e).length=2 ^ ps.length:=by unfold tabP;simp
theorem mY {M:St}{ps:List Int}{f:Int}{e:Edge}{j:Nat}(h:j<2 ^ ps.length):(tabP M ps f e)[j]?=some (tv M f (bG j ps:Int) 0 e):=by
 unfold tabP;simp[h]
theorem mX {M M':St}(h:M.wf)(j:aD M M'){ps:List Int}{f:Int}{e:Edge}(q:M.leads f e 0=true):tabP M' ps f e=tabP M ps f e:=by
 unfold tabP;refine List.map_congr_left fun s _=>?_;exact eL h j (bo.of q)
theorem pL {M:St}{ps:List Int}{f:Int}{e:Edge}(q:M.n=(ps.length:Int))(j:Nat):(cm M f e 0)[bV j ps]?=some (tv M f (bG j ps:Int) 0 e):=by
 unfold cm;rw[show(M.n-0).toNat=ps.length by omega];show(ef _ ps.length 0 0)[bV j ps]?=_;rw[tV _ _ _ _ (jZ j ps),Cb];simp
theorem gn.tabP {lv:Nat}{f:Int}{M:St}{e x:Edge}(h:gn (lv:Int) f M e 0 x){ps:List Int}(q:lv+1<ps.length):tabP M (aK ps lv) f x=tabP M ps f e:=by
 unfold Go.Proofs.YtafkamlhimkbmaaGreat.tabP;rw[eK];exact List.map_congr_left fun j _=>h.cD _ _ (Dg q j)
def bu (ps:List Int)(ss:List Nat):List Int:=ss.foldl aK ps
theorem gg (ss:List Nat):∀ps:List Int,(bu ps ss).length=ps.length:=by
 induction ss with
 |nil=>intro ps;rfl
 |cons q ss j=>intro ps;show(bu (aK ps q) ss).length=_;rw[j,eK]
theorem kF (ps:List Int)(ss:List Nat)(j:Nat):bu ps (ss++[j])=aK (bu ps ss) j:=by
 unfold bu;rw[List.foldl_append];rfl
theorem tj (ss:List Nat):∀ps:List Int,(∀j∈ss,j+1<ps.length)→aF ps=true→aF (bu ps ss)=true:=by
 induction ss with
 |nil=>intro ps _ h;exact h
 |cons j ss z=>
  intro ps q s;show aF (bu (aK ps j) ss)=true;exact z _ (fun z t=>by rw[eK];exact q z (by simp[t])) (jK (q j (by simp)) s)
structure gq (n:Nat)(ss:List Nat)(M0 M:St)(f:Int)(e x:Edge):Prop where
 lead:M.leads f x 0=true
 ok:x.ok
 ev:∀ps:List Int,ps.length=n→tabP M (bu ps ss) f x=tabP M0 ps f e
 right:cu M0 f e 0→cu M f x 0
theorem gq.start {n:Nat}{M:St}{f:Int}{e:Edge}(q:M.leads f e 0=true)(j:e.ok):gq n [] M M f e e:=⟨q,j,fun _ _=>rfl,fun h=>h⟩
theorem gq.ext {n:Nat}{ss:List Nat}{q M M':St}{f:Int}{e x:Edge}(h:gq n ss q M f e x)(s:M.wf)(j:aD M M'):gq n ss q M' f e x:=
 ⟨j.leads h.lead,h.ok,fun ps q=>by rw[mX s j h.lead];exact h.ev ps q,fun t=>ez j s (h.right t)⟩
theorem gq.step {n:Nat}{ss:List Nat}{q M M':St}{f:Int}{e x z:Edge}{lv:Nat}(h:gq n ss q M f e x)(t:M.wf)(s:aD M M')(j:gn (lv:Int) f M' x 0 z)(A:lv+1<n):gq n (ss++[lv]) q M' f e z:=
 ⟨j.lead,j.ok,fun ps q=>by
  rw[kF,j.tabP (by rw[gg,q];exact A),mX t s h.lead]
  exact h.ev ps q,fun z=>j.right (ez s t (h.right z))⟩
def jr (n:Nat)(ss:List Nat)(j M:St)(rs:List (Int×Edge))(es:List Edge):Prop:=
 es.length=rs.length∧∀(i:Nat) (r:Int×Edge) (x:Edge),rs[i]?=some r→es[i]?=some x→gq n ss j M r.1 r.2 x
def jq (n:Nat)(ss:List Nat)(lv d:Nat)(j M:St)(rs:List (Int×Edge))(es:List Edge):Prop:=
 es.length=rs.length∧∀(i:Nat) (r:Int×Edge) (x:Edge),rs[i]?=some r→es[i]?=some x→gq n (if i<d then ss++[lv]else ss) j M r.1 r.2 x
theorem jr.mid {n:Nat}{ss:List Nat}{j M:St}{rs:List (Int×Edge)}{es:List Edge}(h:jr n ss j M rs es)(lv:Nat):jq n ss lv 0 j M rs es:=
 ⟨h.1,fun i r x j q=>by rw[ag (by omega)];exact h.2 i r x j q⟩
theorem jq.all {n:Nat}{ss:List Nat}{lv:Nat}{j M:St}{rs:List (Int×Edge)}{es:List Edge}(h:jq n ss lv rs.length j M rs es):jr n (ss++[lv]) j M rs es:=
 ⟨h.1,fun i r x j q=>by
  have:=h.2 i r x j q;rw[ah (List.getElem?_eq_some_iff.1 j).1]at this
  exact this⟩
theorem jq.next {n:Nat}{ss:List Nat}{lv d:Nat}{s M M':St}{rs:List (Int×Edge)}{es:List Edge}{r:Int×Edge}{x E:Edge}(h:jq n ss lv d s M rs es)(z:rs[d]?=some r)(B:es[d]?=some x)(A:M.wf)(t:aD M M')(I:gn (lv:Int) r.1 M' x 0 E)(J:lv+1<n) :
  jq n ss lv (d+1) s M' rs (es.set d E):=by
 refine⟨by rw[bZ];exact h.1,fun i L y q j=>?_⟩
 by_cases hid:i=d
 ·subst hid;rw[z]at q;cases q;rw[gy (List.getElem?_eq_some_iff.1 B).1]at j;cases j;have:=h.2 i r x z B;rw[ag (by omega)]at this;rw[ah (by omega)];exact this.step A t I J
 ·rw[fK (fun e=>hid e.symm)]at j;have:=(h.2 i L y q j).ext A t;by_cases j:i<d
  ·rw[ah j]at this;rw[ah (by omega)];exact this
  ·rw[ag j]at this;rw[ag (by omega)];exact this
def cR (r:Int×Edge):List Value:=[.int .u8 r.1,.int .u8 r.2.tag,.int .u32 r.2.to]
def ig (e:Edge):List Value:=[.int .u8 e.tag,.int .u32 e.to]
theorem oI:(Tryz.prog.info? 55).map (fun i=>(i.zero,i.size,i.bytes))=some (some (.agg #[.int .u8 0,.int .u8 0,.int .u32 0]),3,12):=by kernel_rfl
theorem lD {w:World}{j:Nat}{e q:TypeId}{size J:Nat}{v s:Value}{n I:Nat}{xs L:List Value}(h:w.ownsRow j e size v n xs)(t:w.ownsRow j q J s I L)(A:e≠q):∀k,v.ownBlock=some k→s.ownBlock≠some k:=fun k B E=>by
 obtain⟨j,z⟩:=bF h B;obtain⟨q,j⟩:=bF t E;rw[z]at j;have:=Option.some.inj j;injection this with _ j _;exact A j
theorem gd {w:World}{s:Nat}{e:TypeId}{size:Nat}{v:Value}{n:Nat}{xs:List Value}(h:w.ownsRow s e size v n xs){k:Nat}(j:v.ownBlock=some k):s≤k:=by
 rcases h.2 with⟨q,_⟩|⟨z,s,t,q,A,_⟩
 ·rw[q]at j;simp[Value.ownBlock]at j
 ·rw[q]at j;simp[Value.ownBlock]at j;omega
def gL (M:St):Prop:=∀id r,look M.cs id=some r→0≤r.lo.to∧0≤r.hi.to
theorem xQ {M:St}(t:M.wf)(h:gL M){j:Rec}(s:0≤j.lo.to∧0≤j.hi.to):gL (M.a7 j):=by
 unfold St.a7;cases M.bD j with
 |some id=>exact h
 |none=>
  simp only[];split;·exact h
  ·split;·exact h
   ·intro id r q;rcases(rQ t.gone id r).1 q with⟨_,rfl⟩|q
    ·exact s
    ·exact h id r q
theorem Ec {M:St}(z:M.wf)(h:gL M){f:Int}{e:Edge}{l:Int}(B:M.leads f e l=true)(O:0≤l)(S:l<M.n)(t:0≤e.to)(q:cK M (aj M f e l)=0) :
  0≤(cz M (aj M f e l)).to∧0≤(bL M f (aj M f e l)).to∧gL (cH M (aj M f e l)):=by
 have I:∀a,a=(.inl (aN f l e):(Edge×Edge×Int) ⊕ Rec)→0≤(cz M a).to∧0≤(bL M f a).to∧gL (cH M a):=fun a N=>by
  subst N;refine⟨?_,?_,h⟩
  ·show 0≤(aN f l e).1.to;unfold aN;split;·exact t
   ·split<;>exact t
  ·show 0≤(aN f l e).2.1.to;unfold aN;split;·exact t
   ·split<;>exact Int.le_refl _
 obtain⟨A,J⟩:∃A,A=aj M f e l:=⟨_,rfl⟩
 rw[←J]at q ⊢
 have j:=J
 unfold aj at j
 rw[ag (by omega),ag (by rw[B];simp)]at j
 split at j
 ·rw[j];exact⟨t,t,h⟩
 ·cases s:look M.cs e.to with
  |none=>
   rw[s]at j;exact I A j
  |some r=>
   rw[s]at j;simp only[]at j;obtain⟨L,E⟩:=h _ _ s;by_cases t:l<r.I
   ·rw[ah t]at j;exact I A j
   ·rw[ag t]at j;split at j
    ·rw[j]at q ⊢;change M.a' ⟨r.al,r.I+1,r.J,r.lo,r.hi⟩=0 at q
     have hid:0≤(bz M 0 ⟨r.al,r.I+1,r.J,r.lo,r.hi⟩).to:=by
      rw[fB q];show 0≤M.bd _;unfold St.a' at q;unfold St.bd;cases hi:M.bD ⟨r.al,r.I+1,r.J,r.lo,r.hi⟩with
      |some id=>have:=(ck (jA hi)).1;simp only[];omega
      |none=>
       rename_i t;have g:=z.b6 s;have I:r.al=f:=(dY B s).1;have A:M.br ⟨r.al,r.I+1,r.J,r.lo,r.hi⟩=false:=mN g z.bw (by have:=(dY B s).2.1;omega) (by rw[I];exact t.1) t.2;have:=(j7 z A (by unfold St.a';rw[hi]at q ⊢;exact q)).2.2.2.1;unfold St.bd at this;rw[hi]at this;omega
     refine⟨hid,?_,xQ z h ⟨L,E⟩⟩;show 0≤(if M.a' _=0 then(if f=4 then bz M 0 _ else r.hi)else⟨0,0⟩:Edge).to;rw[ah q];split;·exact hid
     ·exact E
    ·rw[j];exact⟨L,E,h⟩
theorem BQ {f:Int}(t:1≤f∧f≤5):∀(k:Nat) (l:Int) (M:St) (e:Edge),M.wf→M.room=1048576→M.len+((2 ^ k:Nat):Int)≤1048576→0≤e.to→gL M→M.leads f e l=true→cu M f e l→0≤l→l+(k:Int)=M.n →
  ∃M',aD M M'∧M'.wf∧M'.room=1048576∧M'.len+1≤M.len+((2 ^ k:Nat):Int)∧gL M'∧aJ f M' k (cm M f e l) l e:=by
 intro k
 induction k with
 |zero=>
  intro l M e q W a6 N O s L B U;have a7:l=M.n:=by simpa using U
  have Z:(M.n-l).toNat=0:=by omega
  refine⟨M,aD.refl M,q,W,by show M.len+1≤M.len+((1:Nat):Int);omega,O,?_⟩;by_cases Y:e.to=0
  ·have:=(ya q t t s B Y).own L;rw[Z]at this;exact this
  ·have a8:e.ok:=by
    obtain⟨ad,ab⟩:=a9.1 s;obtain⟨bi,bn,bp,bq,br,bs,a',bb⟩:=bK.1 ad
    have bi:e.to<2:=by
     rcases ab with ab|⟨r,a,b,c,d⟩;·exact ab
     ·have g:=q.b6 a;have:=g.tb;have:=g.bn;omega
    refine⟨?_,⟨N,by omega⟩⟩;by_cases ab:f=5
    ·have:=bb ab Y;omega
    ·have:=a' (.inl ab);omega
   have:=(xZ q t t a8 s a7 Y).own L;rw[Z]at this;exact this
 |succ k a0=>
  intro l M e q W a6 N O s L B U;push_cast at U;have a5:2 ^ (k+1)=2 ^ k+2 ^ k:=by rw[dd];omega
  have ad:0<2 ^ k:=eG (by decide);have E:l<M.n:=by omega
  have X:cK M (aj M f e l)=0:=by
   by_cases j:cK M (aj M f e l)=0;·exact j
   ·have:=(mZ q s E j).2.2;omega
  have j:=gV q s E X;obtain⟨al,am,av⟩:=lN q s B E X L rfl rfl rfl;obtain⟨a3,a1,aw⟩:=Ec q O s B E N X;obtain⟨I,J⟩:∃A,A=cH M (aj M f e l):=⟨_,rfl⟩;obtain⟨lo,T⟩:∃A,A=cz M (aj M f e l):=⟨_,rfl⟩;obtain⟨hi,S⟩:∃A,A=bL M f (aj M f e l):=⟨_,rfl⟩;rw[←J,←T,←S]at j al;rw[←J,←T]at am;rw[←J,←S]at av;rw[←T]at a3;rw[←S]at a1;rw[←J]at aw;have q:=j.ext.n;obtain⟨a4,z,bd,be,q,bf,bg⟩:=a0 (l+1) I lo j.wf (by rw[j.room];exact W) (by have:=j.len;omega) a3 aw j.cp am (by omega) (by omega);have q:=z.n;obtain⟨q,s,A,L,O,N,J⟩:=a0 (l+1) a4 hi bd be (by have:=j.len;omega) a1 bf (z.leads j.cf) (ez z j.wf av) (by omega) (by omega);refine⟨q,(j.ext.trans z).trans s,A,L,by have:=j.len;omega,N,?_⟩;rw[tU j.wf z (bo.of j.cf)]at J;have A:(I.n-(l+1)).toNat=k:=by omega
  have q:(cm I f lo (l+1)).length=2 ^ k:=by rw[mW,A]
  have L:(cm I f hi (l+1)).length=2 ^ k:=by rw[mW,A]
  rw[tY j B E];refine⟨by rw[di,q,L,a5],lo,hi,?_,?_,(al.ext z t).ext s t⟩
  ·rw[List.take_left' q];exact aJ.ext s t _ _ _ _ bg
  ·rw[List.drop_left' q];exact J
theorem BP {f:Int}(B:1≤f∧f≤5){M:St}{e:Edge}{k:Nat}{l:Int}(q:M.wf)(I:M.len+((2 ^ k:Nat):Int)≤1048576)(A:0≤e.to)(E:gL M)(s:M.leads f e l=true)(L:cu M f e l)(z:0≤l)(J:l+(k:Int)=M.n) :
  ∃M',aD M M'∧M'.wf∧M'.room=1048576∧M'.len+1≤M.len+((2 ^ k:Nat):Int)∧gL M'∧aJ f M' k (cm M f e l) l e:=by
 have j:=aD.b2 M
 obtain⟨M',N,O,S,T,U,t⟩:=BQ B k l M.b2 e q.b2 rfl I A E (j.leads s) (ez j q L) z J
 rw[tU q j (bo.of s)]at t
 exact⟨M',j.trans N,O,S,T,U,t⟩
theorem ak.hy {F:Nat→Prop}{w:World}{sb:Nat}{M:St}(h:ak F w sb M):gL M:=fun id r j=>by
 have:=h.b0 j;exact⟨this.lo.2.1,this.hi.2.1⟩
def fY:List Bool→Nat
 |[]=>0
 |b::l=>(if b then 1 else 0)+2*fY l
theorem o0:∀l:List Bool,fY l<2 ^ l.length:=by
 intro l;induction l with
 |nil=>decide
 |cons b l j=>
  show(if b then 1 else 0)+2*fY l<2 ^ (l.length+1);rw[dd];cases b<;>simp<;>omega
theorem zY:∀(l:List Bool) (i:Nat),fY l / 2 ^ i%2=if l.getD i false then 1 else 0:=by
 intro l;induction l with
 |nil=>intro i;simp[fY]
 |cons b l j=>
  intro i;cases i with
  |zero=>
   show((if b then 1 else 0)+2*fY l) / 2 ^ 0%2=if b then 1 else 0;cases b<;>simp<;>omega
  |succ i=>
   show((if b then 1 else 0)+2*fY l) / 2 ^ (i+1)%2=if l.getD i false then 1 else 0;rw[←j i,dd,iW (2 ^ i) 2,←Nat.div_div_eq_div_mul];congr 2
   cases b<;>simp<;>omega
def dP (n:Int)(ws:List Int):Bool:=decide (0≤n∧n≤16)&&(decide (ws.length=max 1 (2 ^ n.toNat / 64))&&decide (6≤n∨ws.getD 0 0<2 ^ 2 ^ n.toNat))
def hasB (ws:List Int)(x:Nat):Bool:=ws.getD (x / 64) 0 / 2 ^ (x%64)%2==1
theorem iJ {n:Int}{ws:List Int}:dP n ws=true↔(0≤n∧n≤16)∧ws.length=max 1 (2 ^ n.toNat / 64)∧(6≤n∨ws.getD 0 0<2 ^ 2 ^ n.toNat):=by
 unfold dP;rw[bT,bT,bC,bC,bC]
def cZ (ts:List Bool):List Int:=(List.range ((ts.length+63) / 64)).map (fun w=>(fY ((ts.drop (64*w)).take 64):Int))
theorem m8 (ts:List Bool):(cZ ts).length=(ts.length+63) / 64:=by unfold cZ;simp
theorem pU {ts:List Bool}{w:Nat}(h:w<(ts.length+63) / 64):(cZ ts).getD w 0=(fY ((ts.drop (64*w)).take 64):Int):=by
 unfold cZ;rw[dC,dh,jW h];rfl
theorem yi {ts:List Bool}{x:Nat}(h:x<ts.length):hasB (cZ ts) x=ts.getD x false:=by
 unfold hasB;rw[pU (by omega)];have j:=zY ((ts.drop (64*(x / 64))).take 64) (x%64)
 have e:((ts.drop (64*(x / 64))).take 64).getD (x%64) false=ts.getD x false:=by
  rw[dC,dC,List.getElem?_take_of_lt (by omega),List.getElem?_drop,show 64*(x / 64)+x%64=x from by omega]
 rw[e]at j;have q:((fY ((ts.drop (64*(x / 64))).take 64):Int) / 2 ^ (x%64))%2=((fY ((ts.drop (64*(x / 64))).take 64) / 2 ^ (x%64)%2:Nat):Int):=by push_cast;rfl
 rw[q,j];cases ts.getD x false<;>rfl
theorem m9:∀n:Nat,n≤16→(2 ^ n+63) / 64=max 1 (2 ^ n / 64):=by decide
theorem Cq {ts:List Bool}{n:Nat}(q:n≤16)(j:ts.length=2 ^ n):dP (n:Int) (cZ ts)=true:=by
 have s:0<2 ^ n:=eG (by decide);refine iJ.2 ⟨by omega,by rw[m8,j,cN];exact m9 n q,?_⟩;by_cases j:6≤n;·exact .inl (by omega)
 ·right;rw[pU (by omega),cN];have j:=o0 ((ts.drop (64*0)).take 64);have q:((ts.drop (64*0)).take 64).length≤2 ^ n:=by rw[iV,List.length_drop];omega
  have s:2 ^ ((ts.drop (64*0)).take 64).length≤2 ^ 2 ^ n:=aW (by decide) q;exact_mod_cast bI j s
def eT (has:Nat→Bool):List Int→Nat→List Bool
 |[],x=>[has x]
 |v::j,x=>eT has j x++eT has j (x ||| 2 ^ v.toNat)
theorem jw (has:Nat→Bool):∀(j:List Int) (x:Nat),(eT has j x).length=2 ^ j.length:=by
 intro j;induction j with
 |nil=>intro x;rfl
 |cons v j q=>intro x;show(eT has j x++eT has j _).length=2 ^ (j.length+1);rw[di,q,q,dd];omega
def jG (j:Nat):List Int→Nat→Nat
 |[],x=>x
 |v::q,x=>jG j q (if ax (j:Int) v=true then x ||| 2 ^ v.toNat else x)
theorem qw (has:Nat→Bool)(q:Nat):∀(j:List Int) (x:Nat),(eT has j x)[bV q j]?=some (has (jG q j x)):=by
 intro j;induction j with
 |nil=>intro x;rfl
 |cons v j t=>
  intro x;show(eT has j x++eT has j (x ||| 2 ^ v.toNat))[vb q v*2 ^ j.length+bV q j]?=some (has (jG q j _));have s:=jZ q j;unfold vb;by_cases s:ax (q:Int) v=true
  ·rw[ah s,ah s,jt (by rw[jw];omega),jw,show 1*2 ^ j.length+bV q j-2 ^ j.length=bV q j from by omega];exact t _
  ·rw[ag s,ag s,iU (by rw[jw];omega),show 0*2 ^ j.length+bV q j=bV q j from by omega];exact t _
theorem AQ (s:Nat):∀(q:List Int) (x j:Nat),(∀v∈q,0≤v)→(jG s q x).testBit j=(x.testBit j||(decide ((j:Int)∈q)&&s.testBit j)):=by
 intro q;induction q with
 |nil=>intro x j _;simp[jG]
 |cons v q I=>
  intro x j h;have J:=h v (by simp);show(jG s q _).testBit j=_;rw[I _ j (fun u E=>h u (by simp[E]))];obtain⟨V,rfl⟩:∃V:Nat,v=(V:Int):=⟨v.toNat,by omega⟩;rw[jX,cN];by_cases t:j=V
  ·subst t;cases A:s.testBit j<;>simp[Nat.testBit_or,Nat.testBit_two_pow]
  ·have B:¬V=j:=fun e=>t e.symm;have z:¬(j:Int)=(V:Int):=(by omega);cases A:s.testBit V;·simp[z]
   ·simp[z,Nat.testBit_or,Nat.testBit_two_pow,B]
theorem sO {j:Nat}{ps:List Int}(s:aF ps=true)(z:j<2 ^ ps.length):jG j ps 0=j:=by
 obtain⟨A,t,B⟩:=dD.1 s;apply Nat.eq_of_testBit_eq;intro q;rw[AQ j ps 0 q (fun v A=>(t v A).1)];by_cases t:q<ps.length
 ·have:(q:Int)∈ps:=(mH.1 s).2.symm.subset (gQ.2 ⟨by omega,by omega⟩);simp[this]
 ·have:j.testBit q=false:=Nat.testBit_lt_two_pow (bI z (aW (by decide) (by omega)));simp[this]
open Go.ChangeShapes Go.WideShapes Go.ChangeAt Go.RowKit
theorem B1 {H:Type}{enc:TypeId×Value→H}{I:World}{J:Nat}{N:Nat→Bool}{held:Bool}{n:Nat}{cs:List Value}{x:DataW H×List MemPlace}
  (h:DataW.trod enc Tryz.prog I J N held n 85 cs=some x):∃r:Int×Edge,((0≤r.1∧r.1≤255)∧r.2.ok)∧cs=[.int .u8 r.1,.int .u8 r.2.tag,.int .u32 r.2.to]:=by
 obtain⟨xs,m,_,_,A,L,z⟩:=DataW.trod_struct Tryz.underlying85 h
 have I:Tryz.prog.cellsOf 85=3:=by kernel_rfl
 have B:Tryz.prog.cellsOf 5=1:=by kernel_rfl
 have E:Tryz.prog.cellsOf 52=2:=by kernel_rfl
 rw[I]at A
 have q:=z 0 _ rfl
 have s:=z 1 _ rfl
 rw[ar (by rw[L];decide)]at q s
 obtain⟨a,t,_,O⟩:=DataW.trod_int Tryz.underlying5 q
 obtain⟨e,S,j⟩:=om s
 match cs,A with
 |[q,s,z],_=>
  simp[B,E]at t j;refine⟨(a,e),⟨wf_u8 O,S⟩,?_⟩;rw[t,j.1,j.2]
theorem Aj {H:Type}{enc:TypeId×Value→H}{s:World}{z:Nat}{I:Nat→Bool}{held:Bool}{a:Option Addr}{len cap:Nat}{d:DataW H}{p:List MemPlace}
  (h:DataW.Trod enc Tryz.prog s z I held 78 (.slice a len cap) d p):∃rs:List (Int×Edge),nj s a len rs:=by
 obtain⟨rs,q,j⟩:=o6 (k:=3) (fun(r:Int×Edge) cs=>((0≤r.1∧r.1≤255)∧r.2.ok)∧cs=[.int .u8 r.1,.int .u8 r.2.tag,.int .u32 r.2.to]) Tryz.underlying78 (by kernel_rfl) (by decide) (fun n cs x E=>by
  obtain⟨r,q,j⟩:=B1 E
  exact⟨by rw[j];rfl,r,q,j⟩) h
 refine⟨rs,q,fun i r B=>?_⟩
 obtain⟨b,off,cs,A,⟨t,rfl⟩,q⟩:=j i r B
 have j:=q 0 (by decide)
 rw[gA]at j
 exact⟨t.1,t.2,b,off,A,j,q 1 (by decide),q 2 (by decide)⟩
instance:Inhabited (Int×Int):=⟨(0,0)⟩
end Go.Proofs.YtafkamlhimkbmaaGreat
