/-
  What an assignment has at levels: Value, clear, free, side; may.
-/
import Derived.Test.YtafkamlhimkbmaaGreatPCube
import Derived.Test.YtafkamlhimkbmaaGreatPRightQ
import Derived.Test.YtafkamlhimkbmaaGreatPUnfBase
namespace Go.Proofs.YtafkamlhimkbmaaGreat
set_option maxRecDepth 1000000
set_option maxHeartbeats 8000000
set_option linter.unusedSimpArgs false
set_option linter.unusedVariables false
open Go.RowKit
theorem uT (j:Int)(s:0≤j)(q:j≤65535):bits BinOp.and IntKind.u16 j 1=j%2:=by
 obtain⟨a,rfl⟩:∃a:Nat,j=(a:Int):=⟨j.toNat,by omega⟩;have j:a &&& 1<2 ^ 16:=Nat.and_lt_two_pow _ (by omega);have j:a &&& 1=a%2:=Nat.and_one_is_mod a
 have q:(BitVec.ofInt 16 (a:Int)).toNat=a:=by
  rw[BitVec.ofInt_natCast,BitVec.toNat_ofNat];exact dT (by omega)
 have j:(BitVec.ofInt 16 ((1:Nat):Int)).toNat=1:=by
  rw[BitVec.ofInt_natCast,BitVec.toNat_ofNat]
 show IntKind.u16.wrap ((BitVec.ofInt 16 (a:Int) &&& BitVec.ofInt 16 ((1:Nat):Int)).toNat:Int)=_;rw[BitVec.toNat_and,q,j,IntKind.wrap_u16];omega
def ax (x k:Int):Bool:=decide (x / 2 ^ k.toNat%2=1)
theorem CD {x:Int}(j:0≤x)(q:x≤65535)(k:Nat):0≤x / 2 ^ k∧x / 2 ^ k≤65535:=by
 have q:(0:Int)<2 ^ k:=Int.pow_pos (by decide);refine⟨Int.ediv_nonneg j (by omega),?_⟩;have:=Int.ediv_le_self (2 ^ k:Int) j;omega
theorem nU {x:Int}(j:0≤x)(q:x≤65535)(k:Int):(bits BinOp.and IntKind.u16 (x / 2 ^ k.toNat) 1==1)=ax x k:=by
 obtain⟨a,b⟩:=CD j q k.toNat;rw[uT _ a b];unfold ax;by_cases h:x / 2 ^ k.toNat%2=1;·rw[bc h,h];rfl
 ·rw[aY h];simpa using h
def cw (x a:Int):Nat→Bool
 |0=>true
 |n+1=>!ax x a&&cw x (a+1) n
theorem nZ (x a b:Int)(w:World)(O:0≤x)(S:x≤65535)(X:0≤a)(Y:b≤17) :
  Calls Tryz.prog 205 #[.int .u16 x,.int .i64 a,.int .i64 b] w fun e w'=>e=.returned (.bool (cw x a (b-a).toNat))∧w=w':=by
 obtain⟨q,A⟩:∃q,q=(b-a).toNat:=⟨_,rfl⟩
 rw[←A]
 have W:=aa A
 clear A
 go_enter Tryz.func205,Tryz.ntmps205
 go_wp2
 go_loopg [7] q (fun gk A wr=>∃k:Int,A=.int .i64 k∧a≤k∧(k≤b∨k=a)∧gk=(b-k).toNat∧cw x k gk=cw x a q∧w=wr)
 case atStart=>exact⟨a,rfl,Int.le_refl _,.inr rfl,W.out,rfl,rfl⟩
 case round=>
  obtain⟨k,rfl,Z,ab,N,I,rfl⟩:=hrel;have t:=aa I;have z:=aa N;clear I N;have q:0≤k:=by omega
  by_cases q:k<b
  ·obtain⟨g,rfl⟩:∃g,gk=g+1:=⟨gk-1,by have:=z.out;omega⟩;have L:g=(b-(k+1)).toNat:=(by have:=z.out;omega);have U:=aa L;have J:cw x k (g+1)=(!ax x k&&cw x (k+1) g):=rfl;have E:=aa J;clear L J;rcases cr (ax x k)with j|j
   ·have B:=nU O S k;rw[j]at B;have s:=aa j;clear j;go_wp2_with fail;go_roundg g
    case rel=>exact⟨k+1,rfl,by omega,by omega,U.out,by rw[←t.out,E.out,s.out];rfl,rfl⟩
    case measure=>omega
   ·have B:=nU O S k;rw[j]at B;have s:=aa j;clear j;go_wp2_with fail;go_ret;exact⟨by rw[←t.out,E.out,s.out];rfl,rfl⟩
  ·have j:gk=0:=(by have:=z.out;omega);have T:=aa j;clear j;go_wp2_with fail;go_ret;exact⟨by rw[←t.out,T.out];rfl,rfl⟩
def fO (f:Int)(e:Edge)(l j:Int):Int:=if f=1∨f=3 then j else if f=5 then e.tag else l
theorem qT (f:Int)(e:Edge)(l j:Int)(w:World)(z:0≤e.tag)(A:e.tag≤255) :
  Calls Tryz.prog 206 #[.int .u8 f,.agg #[.int .u8 e.tag,.int .u32 e.to],.int .i64 l,.int .i64 j] w fun r w'=>r=.returned (.int .i64 (fO f e l j))∧ae w w':=by
 by_cases s:f=1
 ·subst s;rw[show fO 1 e l j=j from rfl];go_enter Tryz.func206,Tryz.ntmps206;go_wp2;go_ret;exact⟨rfl,kp⟩
 ·by_cases t:f=3
  ·subst t;rw[show fO 3 e l j=j from rfl];go_enter Tryz.func206,Tryz.ntmps206;go_wp2;go_ret;exact⟨rfl,kp⟩
  ·by_cases q:f=5
   ·subst q;rw[show fO 5 e l j=e.tag from rfl];go_enter Tryz.func206,Tryz.ntmps206;go_wp2;go_ret;exact⟨rfl,kp⟩
   ·rw[show fO f e l j=l by unfold fO;rw[ag (by omega),ag q]];have j:(f==1)=false:=(by simp[s]);have j:(f==3)=false:=(by simp[t]);have j:(f==5)=false:=(by simp[q]);clear s t q;go_enter Tryz.func206,Tryz.ntmps206;go_wp2;go_ret;exact⟨rfl,kp⟩
def eJ (x:Int)(r:Rec):Bool:=if r.al=3 then !cw x r.I (r.J+1-r.I).toNat else ax x r.J
def aT (x:Int)(r:Rec):Edge:=if eJ x r then r.hi else r.lo
theorem CG (x:Int)(r:Rec)(w:World)(E:0≤x)(I:x≤65535)(L:0≤r.I)(O:r.I≤16)(J:0≤r.J)(N:r.J≤16) :
  Calls Tryz.prog 207 #[.agg #[.int .u8 r.al,.int .u8 r.I,.int .u8 r.J,.int .u8 r.lo.tag,.int .u32 r.lo.to,.int .u8 r.hi.tag,.int .u32 r.hi.to],.int .u16 x] w fun e w'=>e=.returned (.agg #[.int .u8 (aT x r).tag,.int .u32 (aT x r).to])∧ae w w':=by
 have t:=aa (fun(J:World)=>nZ x r.I (r.J+1) J E I L (by omega))
 have B:=nU E I r.J
 by_cases z:r.al=3
 ·obtain⟨c,A⟩:∃c,c=cw x r.I (r.J+1-r.I).toNat:=⟨_,rfl⟩;rw[←A]at t;have s:aT x r=if c then r.lo else r.hi:=by unfold aT eJ;rw[ah z,←A];cases c<;>rfl
  have q:=aa s;obtain⟨b,j⟩:∃b,b=ax x r.J:=⟨_,rfl⟩;rw[←j]at B;clear A s j;cases c
  ·go_enter Tryz.func207,Tryz.ntmps207;go_wp2_with (go_at_call 205;refine(t.out _).mono ?_;rintro e w1 ⟨rfl,rfl⟩)
   all_goals refine aq (v:=.agg #[.int .u8 r.hi.tag,.int .u32 r.hi.to]) (by simp[results,Tryz.results207,go_sem]) rfl ⟨by rw[q.out];rfl,kp⟩
  ·go_enter Tryz.func207,Tryz.ntmps207;go_wp2_with (go_at_call 205;refine(t.out _).mono ?_;rintro e w1 ⟨rfl,rfl⟩)
   all_goals refine aq (v:=.agg #[.int .u8 r.lo.tag,.int .u32 r.lo.to]) (by simp[results,Tryz.results207,go_sem]) rfl ⟨by rw[q.out];rfl,kp⟩
 ·have A:(r.al==3)=false:=by simp[z]
  obtain⟨b,j⟩:∃b,b=ax x r.J:=⟨_,rfl⟩;have s:aT x r=if b then r.hi else r.lo:=by unfold aT eJ;rw[ag z,←j]
  have q:=aa s;rw[←j]at B;clear s j z t;cases b
  ·go_enter Tryz.func207,Tryz.ntmps207;go_wp2_with fail;all_goals refine aq (v:=.agg #[.int .u8 r.lo.tag,.int .u32 r.lo.to]) (by simp[results,Tryz.results207,go_sem]) rfl ⟨by rw[q.out];rfl,kp⟩
  ·go_enter Tryz.func207,Tryz.ntmps207;go_wp2_with fail;all_goals refine aq (v:=.agg #[.int .u8 r.hi.tag,.int .u32 r.hi.to]) (by simp[results,Tryz.results207,go_sem]) rfl ⟨by rw[q.out];rfl,kp⟩
def aP (f:Int)(e:Edge)(l:Int):Bool:=decide (f=2)||decide (f=4)||(decide (f=5)&&decide (e.tag≤l))
def hS (M:St)(f x:Int):Nat→Int→Edge→Bool
 |0,_,e=>decide (e.to≠0)
 |k+1,l,e=>if e.to=0 then false else if M.n≤l then true else match look M.cs e.to with
  |none=>if aP f e l&&ax x l then false else hS M f x k (l+1) e
  |some r=>if l<r.I then(if aP f e l&&ax x l then false else hS M f x k (l+1) e)else hS M f x k (r.J+1) (aT x r)
def eX (f:Int)(e:Edge)(l j:Int):Int:=if f=1∨f=3 then j else if f=5 then max l e.tag else l
theorem qV {f x:Int}{e:Edge}{l j:Int}(B:1≤f∧f≤5)(E:l<j)(I:f=5→e.tag≤j) :
  cw x (eX f e l j) (j-eX f e l j).toNat=(if aP f e l&&ax x l then false else cw x (eX f e (l+1) j) (j-eX f e (l+1) j).toNat):=by
 have B:∀a b:Int,(j-l).toNat=(j-(l+1)).toNat+1:=fun _ _=>by omega
 have A:cw x l (j-l).toNat=(!ax x l&&cw x (l+1) (j-(l+1)).toNat):=by rw[B 0 0];rfl
 by_cases q:f=1∨f=3
 ·have s:aP f e l=false:=by unfold aP;rcases q with rfl|rfl<;>rfl
  unfold eX;rw[s,ah q,ah q];rfl
 ·by_cases t:f=5
  ·subst t;unfold eX;rw[ag q,ag q,ah rfl,ah rfl];by_cases z:e.tag≤l
   ·have s:aP 5 e l=true:=(by unfold aP;rw[bc z];rfl);rw[s,show max l e.tag=l by omega,show max (l+1) e.tag=l+1 by omega,A];cases ax x l<;>rfl
   ·have s:aP 5 e l=false:=(by unfold aP;rw[aY z];rfl);rw[s,show max l e.tag=e.tag by omega,show max (l+1) e.tag=e.tag by omega];rfl
  ·have s:aP f e l=true:=by
    unfold aP;have:f=2∨f=4:=(by omega);rcases this with rfl|rfl<;>rfl
   unfold eX;rw[s,ag q,ag q,ag t,ag t,A];cases ax x l<;>rfl
theorem ov {f x:Int}{e:Edge}{j:Int}(s:1≤f∧f≤5)(q:f=5→e.tag≤j):cw x (eX f e j j) (j-eX f e j j).toNat=true:=by
 have:eX f e j j=j:=by
  unfold eX;split;·rfl
  ·split;·have:=q (by assumption);omega
   ·rfl
 rw[this,show(j-j).toNat=0 by omega];rfl
theorem yL {M:St}{f x:Int}{e:Edge}(q:1≤f∧f≤5)(t:e.to≠0)(B:look M.cs e.to=none)(s:f=5→e.tag≤M.n):∀(K:Nat) (l:Int),l≤M.n→M.n-l≤(K:Int)→hS M f x K l e=cw x (eX f e l M.n) (M.n-eX f e l M.n).toNat:=by
 intro K;induction K with
 |zero=>
  intro l A z;have j:l=M.n:=by omega
  subst j;rw[ov q s];exact bc t
 |succ K I=>
  intro l A z;by_cases E:M.n≤l
  ·have j:l=M.n:=(by omega);subst j;rw[ov q s];show(if e.to=0 then false else if M.n≤M.n then true else _)=true;rw[ag t,ah (Int.le_refl _)]
  ·rw[qV q (by omega) s];show(if e.to=0 then false else if M.n≤l then true else match look M.cs e.to with|none=>_|some r=>_)=_;rw[ag t,ag E,B];simp only[];rw[I (l+1) (by omega) (by push_cast at z;omega)]
theorem yM {M:St}{f x:Int}{e:Edge}{r:Rec}(z:1≤f∧f≤5)(I:e.to≠0)(E:look M.cs e.to=some r)(A:f=5→e.tag≤r.I)(B:r.I≤r.J)(L:r.J<M.n):∀(K:Nat) (l:Int),l≤r.I→M.n-l≤(K:Int) →
  ∃j:Nat,M.n-(r.J+1)≤(j:Int)∧hS M f x K l e=(cw x (eX f e l r.I) (r.I-eX f e l r.I).toNat&&hS M f x j (r.J+1) (aT x r)):=by
 intro K
 induction K with
 |zero=>intro l B q;omega
 |succ K J=>
  intro l B q
  have t:hS M f x (K+1) l e=(if l<r.I then(if aP f e l&&ax x l then false else hS M f x K (l+1) e)else hS M f x K (r.J+1) (aT x r)):=by
   show(if e.to=0 then false else if M.n≤l then true else match look M.cs e.to with|none=>_|some r=>_)=_;rw[ag I,ag (by omega),E]
  by_cases s:l<r.I
  ·obtain⟨j,B,E⟩:=J (l+1) (by omega) (by push_cast at q;omega);refine⟨j,B,?_⟩;rw[t,ah s,qV z s A,E];cases(aP f e l&&ax x l)<;>rfl
  ·have j:l=r.I:=(by omega);refine⟨K,by push_cast at q;omega,?_⟩;rw[t,ag s,j,ov z A];rfl
theorem qU {M:St}{f:Int}{e:Edge}{l j:Int}(h:M.leads f e l=true)(q:e.to≠0):fO f e l j=eX f e l j:=by
 obtain⟨j,t,z,A,B,E,I,s⟩:=bK.1 (a9.1 h).1;unfold fO eX;split;·rfl
 ·split
  ·have:=s (by assumption) q;omega
  ·rfl
def cJ (M:St)(f:Int)(e:Edge)(l:Int):Int:=if aR f=false then 4 else if l<0∨M.n<l then 3 else if M.leads f e l=false then 1 else 0
theorem sf (M:St)(f:Int)(e:Edge)(l:Int):0≤cJ M f e l∧cJ M f e l≤4:=by
 unfold cJ;split;·decide
 ·split;·decide
  ·split<;>decide
theorem px {M:St}(h:M.wf){id x:Int}{r:Rec}(j:look M.cs id=some r):M.leads r.al (aT x r) (r.J+1)=true:=by
 have g:=h.b6 j;unfold aT;split;·exact g.hi
 ·exact g.lo
theorem zJ {F:Nat→Prop}{w:World}{sb:Nat}{M:St}(h:ak F w sb M)(f:Int)(v:Edge)(l:Int)(N:v.ok) :
  Calls Tryz.prog 79 #[.pointer (some ⟨sb,0,none⟩),.int .u8 f,.agg #[.int .u8 v.tag,.int .u32 v.to],.int .i64 l] w fun r w'=>r=.returned (.int .u8 (cJ M f v l))∧ae w w':=by
 have B:=aa (fun(I:World) (J:ae w I)=>dw (h.ad J))
 have q:=fun(I:World) (J:ae w I)=>dF (h.ad J) f v l N
 have z:=jg f
 rcases cr (aR f)with j|j
 ·have e:cJ M f v l=4:=by unfold cJ;rw[ah j]
  rw[e];rw[j]at z;have t:=aa z;clear h q z j e;go_enter Tryz.func79,Tryz.ntmps79;go_wp2_with (first|(go_at_call 100;refine(t.out _).mono ?_;rintro e w' ⟨rfl,rfl⟩)|fail)
  go_ret;exact⟨rfl,kp⟩
 ·rw[j]at z;have t:=aa z;clear z;by_cases A:l<0∨M.n<l
  ·have e:cJ M f v l=3:=(by unfold cJ;rw[ag (by rw[j];simp),ah A]);rw[e];clear h q j e;by_cases z:l<0
   ·go_enter Tryz.func79,Tryz.ntmps79;go_wp2_with (first|(go_at_call 100;refine(t.out _).mono ?_;rintro e w' ⟨rfl,rfl⟩)|(go_at_call 48;refine(B.out _ kp).mono ?_;rintro e w' ⟨rfl,rfl⟩)|fail)
    all_goals go_ret
    all_goals exact⟨rfl,kp⟩
   ·have z:M.n<l:=(by omega);go_enter Tryz.func79,Tryz.ntmps79;go_wp2_with (first|(go_at_call 100;refine(t.out _).mono ?_;rintro e w' ⟨rfl,rfl⟩)|(go_at_call 48;refine(B.out _ kp).mono ?_;rintro e w' ⟨rfl,rfl⟩)|fail)
    all_goals go_ret
    all_goals exact⟨rfl,kp⟩
  ·have z:¬l<0:=(by omega);have z:¬M.n<l:=(by omega);rcases cr (M.leads f v l)with s|s
   ·have e:cJ M f v l=1:=(by unfold cJ;rw[ag (by rw[j];simp),ag A,ah s]);rw[e];rw[s]at q;have E:=aa q;clear h q j e A s;go_enter Tryz.func79,Tryz.ntmps79;go_wp2_with (first|(go_at_call 100;refine(t.out _).mono ?_;rintro e w' ⟨rfl,rfl⟩)|(go_at_call 48;refine(B.out _ kp).mono ?_;rintro e w' ⟨rfl,rfl⟩)|(go_at_call 134;refine(E.out _ kp).mono ?_;rintro e w1 ⟨rfl,L⟩)|fail)
    all_goals go_ret
    all_goals exact⟨rfl,kp⟩
   ·have e:cJ M f v l=0:=(by unfold cJ;rw[ag (by rw[j];simp),ag A,ag (by rw[s];simp)]);rw[e];rw[s]at q;have E:=aa q;clear h q j e A s;go_enter Tryz.func79,Tryz.ntmps79;go_wp2_with (first|(go_at_call 100;refine(t.out _).mono ?_;rintro e w' ⟨rfl,rfl⟩)|(go_at_call 48;refine(B.out _ kp).mono ?_;rintro e w' ⟨rfl,rfl⟩)|(go_at_call 134;refine(E.out _ kp).mono ?_;rintro e w1 ⟨rfl,L⟩)|fail)
    all_goals go_ret
    all_goals exact⟨rfl,kp⟩
theorem yl {F:Nat→Prop}{w:World}{sb:Nat}{M:St}(h:ak F w sb M)(f:Int)(v:Edge)(l x:Int)(cj:v.ok)(b0:0≤x)(b1:x≤65535) :
  Calls Tryz.prog 146 #[.pointer (some ⟨sb,0,none⟩),.int .u8 f,.agg #[.int .u8 v.tag,.int .u32 v.to],.int .i64 l,.int .u16 x] w fun r w'=>r=.returned (.tuple #[.bool (decide (cJ M f v l=0)&&hS M f x (M.n-l).toNat l v),.int .u8 (cJ M f v l)])∧ae w w':=by
 have Y:=fun(j:World) (E:ae w j)=>zJ (h.ad E) f v l cj
 have cg:=sf M f v l
 by_cases t:cJ M f v l=0
 ·have av:aR f=true:=by
   cases bs:aR f with
   |true=>rfl
   |false=>unfold cJ at t;rw[ah bs]at t;cases t
  have d0:¬(l<0∨M.n<l):=by
   intro bt;unfold cJ at t;rw[ag (by rw[av];simp),ah bt]at t;cases t
  have cd:M.leads f v l=true:=by
   cases bs:M.leads f v l with
   |true=>rfl
   |false=>unfold cJ at t;rw[ag (by rw[av];simp),ag d0,ah bs]at t;cases t
  have cb:1≤f∧f≤5:=by unfold aR at av;simpa using av
  rw[t]at Y ⊢;rw[show(decide ((0:Int)=0)&&hS M f x (M.n-l).toNat l v)=hS M f x (M.n-l).toNat l v from rfl];have bg:=aa Y;have c4:=aa h;have b8:=aa (fun(j:World) (E:ae w j) (id:Int) (hid:id≤4294967295)=>gI (h.ad E) id hid);have a6:=aa (fun(j:World) (E:ae w j)=>dw (h.ad E));have b9:=aa h.wf;have bs:=h.wf.bw;have d6:=h.wf.n0;have c3:=aa cd;have b7:=aa cb;clear h Y cg t av cd cb;go_enter Tryz.func146,Tryz.ntmps146;go_wp2_with (first|(go_at_call 79;refine(bg.out _ kp).mono ?_;rintro e w1 ⟨rfl,I⟩;have ec:w1.cell? ⟨w.heap.size,0,none⟩=some (.int .u8 v.tag):=I.cell (by simp);have ed:w1.cell? ⟨w.heap.size,1,none⟩=some (.int .u32 v.to):=I.cell (by simp);have cS:=(fun o:Nat=>I.d' (a:=⟨w.heap.size,o,none⟩));have cc:ae w w1:=kp)|fail)
  have c9:=aa cS;have c1:=aa cc;have d1:w.heap.size<w1.heap.size:=by have:=I.size;simp only[ai]at this;omega
  clear cS cc I
  go_loopg [3] ((M.n-l).toNat+1) (fun gk av wr=>∃(s:Int) (e:Edge) (K:Nat),av=.int .i64 s∧0≤s∧s≤M.n∧gk=(M.n-s).toNat+1∧M.n-s≤(K:Int)∧e.ok∧M.leads f e s=true∧hS M f x K s e=hS M f x (M.n-l).toNat l v ∧
   wr.cell? ⟨w.heap.size,0,none⟩=some (.int .u8 e.tag)∧wr.cell? ⟨w.heap.size,1,none⟩=some (.int .u32 e.to)∧(∀o:Nat,wr.frozen? ⟨w.heap.size,o,none⟩=false)∧w.heap.size<wr.heap.size∧ae w wr)
  case atStart=>exact⟨l,v,(M.n-l).toNat,rfl,by omega,by omega,rfl,by omega,cj,c3.out,rfl,ec,ed,c9.out,d1,c1.out⟩
  case round=>
   obtain⟨s,e,K,rfl,cf,d3,bs,a7,av,cb,cc,bb,be,cd,ce,I⟩:=hrel;have c0:=aa bs;have bi:=aa cc;have B:=aa I;have a5:=aa cb;have ca:=aa cd;have X:=aa av;have cp:=av.2.2;have cj:=av.2.1;clear bs cc I cb cd av;by_cases W:e.to=0
   ·have ch:hS M f x (M.n-l).toNat l v=false:=by
     rw[←bi.out];cases K with
     |zero=>exact aY (fun bt=>bt W)
     |succ K=>show(if e.to=0 then false else _)=false;rw[ah W]
    have c5:=aa ch;clear ch;go_wp2_with fail;go_ret2;exact⟨by rw[c5.out];rfl,B.out⟩
   ·
    have av:0<e.to:=(by omega);cases A:look M.cs e.to with
    |none=>
     have a1:=yL (x:=x) b7.out W A (fun av=>((bK.1 (a9.1 a5.out).1).2.2.2.2.2.2.2 av W).2) K s d3 a7;rw[←qU a5.out W,bi.out]at a1;have a0:∀j,ae w j→Calls Tryz.prog 78 #[.pointer (some ⟨sb,0,none⟩),.int .u32 e.to] j fun r w'=>r=.returned (.tuple #[.agg #[.int .u8 Rec.zero.al,.int .u8 Rec.zero.I,.int .u8 Rec.zero.J,.int .u8 Rec.zero.lo.tag,.int .u32 Rec.zero.lo.to,.int .u8 Rec.zero.hi.tag,.int .u32 Rec.zero.hi.to],.bool false])∧ae j w':=fun j E=>(by have:=b8.out j E e.to cp;rw[A]at this;exact this);have T:0≤fO f e s M.n:=(by unfold fO;split;exact d6;split;exact X.out.1.1;exact cf);obtain⟨z,S⟩:∃z,z=fO f e s M.n:=⟨_,rfl⟩;have aw:∀j,Calls Tryz.prog 206 #[.int .u8 f,.agg #[.int .u8 e.tag,.int .u32 e.to],.int .i64 s,.int .i64 M.n] j fun r w'=>r=.returned (.int .i64 z)∧ae j w':=fun j=>(by rw[S];exact qT f e s M.n j X.out.1.1 X.out.1.2);rw[←S]at a1 T;have O:=fun(j:World)=>nZ x z M.n j b0 b1 T (by omega);obtain⟨c,J⟩:∃c,c=cw x z (M.n-z).toNat:=⟨_,rfl⟩;rw[←J]at a1 O;have al:=aa a0;have ad:=aa aw;have ab:=aa O;have am:=aa a1;clear a0 aw O a1 A J S T a7;have b5:=ca.out;rcases cr c with N|N
     ·subst N;go_wp2_with (first|(go_at_call 78;refine(al.out _ B.out).mono ?_;rintro bn L ⟨rfl,q⟩;have bd:=q.cell bb;have bf:=q.cell be;have a8:w.heap.size<L.heap.size:=(by have:=q.size;omega);have bv:=B.out.trans q)|(go_at_call 48;refine(a6.out _ kp).mono ?_;rintro bp b3 ⟨rfl,rfl⟩)|(go_at_call 206;refine(ad.out _).mono ?_;rintro bq a4 ⟨rfl,U⟩)|(go_at_call 205;refine(ab.out _).mono ?_;rintro br b4 ⟨rfl,rfl⟩)|fail)
      go_ret2;exact⟨by rw[am.out];rfl,kp⟩
     ·subst N;go_wp2_with (first|(go_at_call 78;refine(al.out _ B.out).mono ?_;rintro bn L ⟨rfl,q⟩;have bd:=q.cell bb;have bf:=q.cell be;have a8:w.heap.size<L.heap.size:=(by have:=q.size;omega);have bv:=B.out.trans q)|(go_at_call 48;refine(a6.out _ kp).mono ?_;rintro bp b3 ⟨rfl,rfl⟩)|(go_at_call 206;refine(ad.out _).mono ?_;rintro bq a4 ⟨rfl,U⟩)|(go_at_call 205;refine(ab.out _).mono ?_;rintro br b4 ⟨rfl,rfl⟩)|fail)
      go_ret2;exact⟨by rw[am.out];rfl,kp⟩
    |some r=>
     obtain⟨cn,lt,co⟩:=dY a5.out A;have gr:=b9.out.b6 A;have a3:r.ok:=(by have:=c4.out.g' e.to;rw[A]at this;exact this);have d7:=gr.tb;have dB:=gr.bn;obtain⟨c',cl,Z⟩:=yM (x:=x) b7.out W A (fun _=>co) d7 dB K s lt a7;rw[←qU a5.out W,bi.out]at Z;have a0:∀j,ae w j→Calls Tryz.prog 78 #[.pointer (some ⟨sb,0,none⟩),.int .u32 e.to] j fun W w'=>W=.returned (.tuple #[.agg #[.int .u8 r.al,.int .u8 r.I,.int .u8 r.J,.int .u8 r.lo.tag,.int .u32 r.lo.to,.int .u8 r.hi.tag,.int .u32 r.hi.to],.bool true])∧ae j w':=fun j E=>(by have:=b8.out j E e.to cp;rw[A]at this;exact this);have T:0≤fO f e s r.I:=(by unfold fO;split;omega;split;exact X.out.1.1;exact cf);obtain⟨z,S⟩:∃z,z=fO f e s r.I:=⟨_,rfl⟩;have aw:∀j,Calls Tryz.prog 206 #[.int .u8 f,.agg #[.int .u8 e.tag,.int .u32 e.to],.int .i64 s,.int .i64 r.I] j fun r w'=>r=.returned (.int .i64 z)∧ae j w':=fun j=>(by rw[S];exact qT f e s r.I j X.out.1.1 X.out.1.2);rw[←S]at Z T;have O:=fun(j:World)=>nZ x z r.I j b0 b1 T (by omega);obtain⟨c,J⟩:∃c,c=cw x z (r.I-z).toNat:=⟨_,rfl⟩;rw[←J]at Z O;have rt:=a3.I;have s:=a3.J;have bx:=fun(j:World)=>CG x r j b0 b1 rt.1 (by omega) s.1 (by omega);have a':=px (x:=x) b9.out A;rw[cn]at a';have bD:(aT x r).ok:=(by unfold aT;split;exact a3.hi;exact a3.lo);obtain⟨b2,ci⟩:∃b2,b2=aT x r:=⟨_,rfl⟩;rw[←ci]at bx a' bD Z;have al:=aa a0;have ad:=aa aw;have ab:=aa O;have am:=aa Z;have c6:=aa bx;have c7:=aa a';have c8:=aa bD;have c2:=aa cl;clear a0 aw O Z A J S T a7 gr a3 bx a' bD ci cn co cl;have b5:=ca.out;rcases cr c with N|N
     ·subst N;go_wp2_with (first|(go_at_call 78;refine(al.out _ B.out).mono ?_;rintro bn L ⟨rfl,q⟩;have bd:=q.cell bb;have bf:=q.cell be;have a8:w.heap.size<L.heap.size:=(by have:=q.size;omega);have bv:=B.out.trans q;have cy:=(fun o:Nat=>q.a3 (a:=⟨w.heap.size,o,none⟩) ce (b5 o)))|(go_at_call 48;refine(a6.out _ kp).mono ?_;rintro bp b3 ⟨rfl,rfl⟩)|(go_at_call 206;refine(ad.out _).mono ?_;rintro bq a4 ⟨rfl,U⟩;obtain⟨da,db,dj,dk,dl,dr,ds⟩:=dL U)|(go_at_call 205;refine(ab.out _).mono ?_;rintro br b4 ⟨rfl,rfl⟩)|fail)
      go_ret2;exact⟨by rw[am.out];rfl,kp⟩
     ·subst N;go_wp2_with (first|(go_at_call 78;refine(al.out _ B.out).mono ?_;rintro bn L ⟨rfl,q⟩;have bd:=q.cell bb;have bf:=q.cell be;have a8:w.heap.size<L.heap.size:=(by have:=q.size;omega);have bv:=B.out.trans q;have cy:=(fun o:Nat=>q.a3 (a:=⟨w.heap.size,o,none⟩) ce (b5 o)))|(go_at_call 48;refine(a6.out _ kp).mono ?_;rintro bp b3 ⟨rfl,rfl⟩)|fail)
      refine(ad.out _).mono ?_;rintro bq a4 ⟨rfl,U⟩;obtain⟨da,db,dj,dk,dl,dr,ds⟩:=dL U;have d5:=U.size;have d2:w.heap.size<a4.heap.size:=(by simp only[ai]at d5;omega);have j:ae L a4:=((ae.refl _).alloc _).trans U;have eb:=(fun o:Nat=>j.a3 (a:=⟨w.heap.size,o,none⟩) a8 (cy o));have d9:=j.cell bd;have ea:=j.cell bf;go_wp2_with (first|(go_at_call 205;refine(ab.out _).mono ?_;rintro br b4 ⟨rfl,rfl⟩)|(go_at_call 207;refine(c6.out _).mono ?_;rintro j d8 ⟨rfl,j⟩;have cv:=j.cell d9;have cx:=j.cell ea;have b6:=(fun o:Nat=>j.a3 (a:=⟨w.heap.size,o,none⟩) d2 (eb o));have cD:=b6 0;have cE:=b6 1;have bw:w.heap.size<d8.heap.size:=(by have:=j.size;omega))|fail)
      go_roundg ((M.n-(r.J+1)).toNat+1)
      case rel=>exact⟨r.J+1,b2,c',rfl,by omega,by omega,rfl,c2.out,c8.out,c7.out,by rw[am.out];rfl,by simp[go_sem,cD,cE,cv,cx,bw],by simp[go_sem,cD,cE,cv,cx,bw],fun o=>by simp[go_sem,b6 o],by simpa using bw,kp⟩
      case measure=>have:=c0.out;omega
 ·rw[aY t,Bool.false_and];obtain⟨c,J⟩:∃c,c=cJ M f v l:=⟨_,rfl⟩;rw[←J]at Y cg t ⊢;have j:(c != 0)=true:=by simp[t]
  have bg:=aa Y;clear h Y J;go_enter Tryz.func146,Tryz.ntmps146;go_wp2_with (first|(go_at_call 79;refine(bg.out _ kp).mono ?_;rintro e w1 ⟨rfl,I⟩)|fail)
  go_ret2;exact⟨rfl,kp⟩
def fP (M:St)(f:Int)(e:Edge)(l:Int):(Edge×Edge×Int) ⊕ Rec:=
 if f=1 then aj M 1 e l else if f=2 then aj M 2 e l else if f=3 then aj M 3 e l else if f=4 then aj M 4 e l else if f=5 then aj M 5 e l else .inl (⟨0,0⟩,⟨0,0⟩,4)
theorem y9 {F:Nat→Prop}(R:World→World→Prop)(sb:Nat)(l t:Int)(v lo hi:Edge)(w:World)(Z:sb<w.heap.size)(J:∀k,F k→k<w.heap.size)
  (I:∀j,ae w j→Calls Tryz.prog 267 #[.pointer (some ⟨sb,0,none⟩),.agg #[.int .u8 v.tag,.int .u32 v.to],.int .i64 l] j fun e w'=>e=.returned (.tuple #[.agg #[.int .u8 lo.tag,.int .u32 lo.to],.agg #[.int .u8 hi.tag,.int .u32 hi.to],.int .u8 t])∧af F j w'∧R j w') :
  Calls Tryz.prog 258 #[.pointer (some ⟨sb,0,none⟩),.int .u8 1,.agg #[.int .u8 v.tag,.int .u32 v.to],.int .i64 l] w fun e w'=>e=.returned (.tuple #[.agg #[.int .u8 lo.tag,.int .u32 lo.to],.agg #[.int .u8 hi.tag,.int .u32 hi.to],.int .u8 t]) ∧
   ∃j s,ae w j∧af F j s∧R j s∧af (fun k=>w.heap.size≤k∧k<j.heap.size) s w':=by
 have L:=aa I
 have j:∀k,w.heap.size≤k→¬F k:=fun k z h=>by have:=J k h;omega
 have A:=j (w.heap.size+1) (by omega)
 have B:=j (w.heap.size+2) (by omega)
 clear I J j
 go_enter Tryz.func258,Tryz.ntmps258
 go_wp2_with (go_at_call 267;refine(L.out _ kp).mono ?_;rintro e E ⟨rfl,q,N⟩;have O:=q.size;(try simp only[ai,au,World.a5]at O);have U:=q.cell (a:=⟨w.heap.size+1,0,none⟩) A (v:=.int .u8 0) (by simp[go_sem]);have W:=q.cell (a:=⟨w.heap.size+1,1,none⟩) A (v:=.int .u32 0) (by simp[go_sem]);have j:=fun o:Nat=>q.frozen (a:=⟨w.heap.size+1,o,none⟩) (by simp[go_sem]) A (by simp[go_sem]);have X:=q.cell (a:=⟨w.heap.size+2,0,none⟩) B (v:=.int .u8 0) (by simp[go_sem]);have Y:=q.cell (a:=⟨w.heap.size+2,1,none⟩) B (v:=.int .u32 0) (by simp[go_sem]);have j:=fun o:Nat=>q.frozen (a:=⟨w.heap.size+2,o,none⟩) (by simp[go_sem]) B (by simp[go_sem]);have S:w.heap.size+1<E.heap.size:=(by omega);have T:w.heap.size+2<E.heap.size:=(by omega))
 all_goals refine aq (v:=.tuple #[.agg #[.int .u8 lo.tag,.int .u32 lo.to],.agg #[.int .u8 hi.tag,.int .u32 hi.to],.int .u8 t]) (by simp[results,Tryz.results258,go_sem,S,T,U,W,X,Y]) rfl ⟨rfl,_,E,kp,q,N,?_⟩
 all_goals(try simp only[ai,au,World.a5])
 all_goals(repeat (first|with_reducible exact af.refl _ _|exact af.mono j (fun k _ z=>⟨z.1,by(try simp only[ai,au,World.a5]);have:=z.2;omega⟩)|refine af.setCell ?_ (Or.inl (by dsimp only;omega)) _|refine af.setCell ?_ (Or.inr (by dsimp only;omega)) _|with_reducible refine af.drewN ?_ _|with_reducible refine af.drew ?_|with_reducible refine af.alloc ?_ _))
theorem zd {F:Nat→Prop}(R:World→World→Prop)(sb:Nat)(l t:Int)(v lo hi:Edge)(w:World)(Z:sb<w.heap.size)(J:∀k,F k→k<w.heap.size)
  (I:∀j,ae w j→Calls Tryz.prog 268 #[.pointer (some ⟨sb,0,none⟩),.agg #[.int .u8 v.tag,.int .u32 v.to],.int .i64 l] j fun e w'=>e=.returned (.tuple #[.agg #[.int .u8 lo.tag,.int .u32 lo.to],.agg #[.int .u8 hi.tag,.int .u32 hi.to],.int .u8 t])∧af F j w'∧R j w') :
  Calls Tryz.prog 258 #[.pointer (some ⟨sb,0,none⟩),.int .u8 2,.agg #[.int .u8 v.tag,.int .u32 v.to],.int .i64 l] w fun e w'=>e=.returned (.tuple #[.agg #[.int .u8 lo.tag,.int .u32 lo.to],.agg #[.int .u8 hi.tag,.int .u32 hi.to],.int .u8 t]) ∧
   ∃j s,ae w j∧af F j s∧R j s∧af (fun k=>w.heap.size≤k∧k<j.heap.size) s w':=by
 have L:=aa I
 have j:∀k,w.heap.size≤k→¬F k:=fun k z h=>by have:=J k h;omega
 have A:=j (w.heap.size+1) (by omega)
 have B:=j (w.heap.size+2) (by omega)
 clear I J j
 go_enter Tryz.func258,Tryz.ntmps258
 go_wp2_with (go_at_call 268;refine(L.out _ kp).mono ?_;rintro e E ⟨rfl,q,N⟩;have O:=q.size;(try simp only[ai,au,World.a5]at O);have U:=q.cell (a:=⟨w.heap.size+1,0,none⟩) A (v:=.int .u8 0) (by simp[go_sem]);have W:=q.cell (a:=⟨w.heap.size+1,1,none⟩) A (v:=.int .u32 0) (by simp[go_sem]);have j:=fun o:Nat=>q.frozen (a:=⟨w.heap.size+1,o,none⟩) (by simp[go_sem]) A (by simp[go_sem]);have X:=q.cell (a:=⟨w.heap.size+2,0,none⟩) B (v:=.int .u8 0) (by simp[go_sem]);have Y:=q.cell (a:=⟨w.heap.size+2,1,none⟩) B (v:=.int .u32 0) (by simp[go_sem]);have j:=fun o:Nat=>q.frozen (a:=⟨w.heap.size+2,o,none⟩) (by simp[go_sem]) B (by simp[go_sem]);have S:w.heap.size+1<E.heap.size:=(by omega);have T:w.heap.size+2<E.heap.size:=(by omega))
 all_goals refine aq (v:=.tuple #[.agg #[.int .u8 lo.tag,.int .u32 lo.to],.agg #[.int .u8 hi.tag,.int .u32 hi.to],.int .u8 t]) (by simp[results,Tryz.results258,go_sem,S,T,U,W,X,Y]) rfl ⟨rfl,_,E,kp,q,N,?_⟩
 all_goals(try simp only[ai,au,World.a5])
 all_goals(repeat (first|with_reducible exact af.refl _ _|exact af.mono j (fun k _ z=>⟨z.1,by(try simp only[ai,au,World.a5]);have:=z.2;omega⟩)|refine af.setCell ?_ (Or.inl (by dsimp only;omega)) _|refine af.setCell ?_ (Or.inr (by dsimp only;omega)) _|with_reducible refine af.drewN ?_ _|with_reducible refine af.drew ?_|with_reducible refine af.alloc ?_ _))
theorem y' {F:Nat→Prop}(R:World→World→Prop)(sb:Nat)(l t:Int)(v lo hi:Edge)(w:World)(Z:sb<w.heap.size)(J:∀k,F k→k<w.heap.size)
  (I:∀j,ae w j→Calls Tryz.prog 269 #[.pointer (some ⟨sb,0,none⟩),.agg #[.int .u8 v.tag,.int .u32 v.to],.int .i64 l] j fun e w'=>e=.returned (.tuple #[.agg #[.int .u8 lo.tag,.int .u32 lo.to],.agg #[.int .u8 hi.tag,.int .u32 hi.to],.int .u8 t])∧af F j w'∧R j w') :
  Calls Tryz.prog 258 #[.pointer (some ⟨sb,0,none⟩),.int .u8 3,.agg #[.int .u8 v.tag,.int .u32 v.to],.int .i64 l] w fun e w'=>e=.returned (.tuple #[.agg #[.int .u8 lo.tag,.int .u32 lo.to],.agg #[.int .u8 hi.tag,.int .u32 hi.to],.int .u8 t]) ∧
   ∃j s,ae w j∧af F j s∧R j s∧af (fun k=>w.heap.size≤k∧k<j.heap.size) s w':=by
 have L:=aa I
 have j:∀k,w.heap.size≤k→¬F k:=fun k z h=>by have:=J k h;omega
 have A:=j (w.heap.size+1) (by omega)
 have B:=j (w.heap.size+2) (by omega)
 clear I J j
 go_enter Tryz.func258,Tryz.ntmps258
 go_wp2_with (go_at_call 269;refine(L.out _ kp).mono ?_;rintro e E ⟨rfl,q,N⟩;have O:=q.size;(try simp only[ai,au,World.a5]at O);have U:=q.cell (a:=⟨w.heap.size+1,0,none⟩) A (v:=.int .u8 0) (by simp[go_sem]);have W:=q.cell (a:=⟨w.heap.size+1,1,none⟩) A (v:=.int .u32 0) (by simp[go_sem]);have j:=fun o:Nat=>q.frozen (a:=⟨w.heap.size+1,o,none⟩) (by simp[go_sem]) A (by simp[go_sem]);have X:=q.cell (a:=⟨w.heap.size+2,0,none⟩) B (v:=.int .u8 0) (by simp[go_sem]);have Y:=q.cell (a:=⟨w.heap.size+2,1,none⟩) B (v:=.int .u32 0) (by simp[go_sem]);have j:=fun o:Nat=>q.frozen (a:=⟨w.heap.size+2,o,none⟩) (by simp[go_sem]) B (by simp[go_sem]);have S:w.heap.size+1<E.heap.size:=(by omega);have T:w.heap.size+2<E.heap.size:=(by omega))
 all_goals refine aq (v:=.tuple #[.agg #[.int .u8 lo.tag,.int .u32 lo.to],.agg #[.int .u8 hi.tag,.int .u32 hi.to],.int .u8 t]) (by simp[results,Tryz.results258,go_sem,S,T,U,W,X,Y]) rfl ⟨rfl,_,E,kp,q,N,?_⟩
 all_goals(try simp only[ai,au,World.a5])
 all_goals(repeat (first|with_reducible exact af.refl _ _|exact af.mono j (fun k _ z=>⟨z.1,by(try simp only[ai,au,World.a5]);have:=z.2;omega⟩)|refine af.setCell ?_ (Or.inl (by dsimp only;omega)) _|refine af.setCell ?_ (Or.inr (by dsimp only;omega)) _|with_reducible refine af.drewN ?_ _|with_reducible refine af.drew ?_|with_reducible refine af.alloc ?_ _))
theorem zb {F:Nat→Prop}(R:World→World→Prop)(sb:Nat)(l t:Int)(v lo hi:Edge)(w:World)(Z:sb<w.heap.size)(J:∀k,F k→k<w.heap.size)
  (I:∀j,ae w j→Calls Tryz.prog 270 #[.pointer (some ⟨sb,0,none⟩),.agg #[.int .u8 v.tag,.int .u32 v.to],.int .i64 l] j fun e w'=>e=.returned (.tuple #[.agg #[.int .u8 lo.tag,.int .u32 lo.to],.agg #[.int .u8 hi.tag,.int .u32 hi.to],.int .u8 t])∧af F j w'∧R j w') :
  Calls Tryz.prog 258 #[.pointer (some ⟨sb,0,none⟩),.int .u8 4,.agg #[.int .u8 v.tag,.int .u32 v.to],.int .i64 l] w fun e w'=>e=.returned (.tuple #[.agg #[.int .u8 lo.tag,.int .u32 lo.to],.agg #[.int .u8 hi.tag,.int .u32 hi.to],.int .u8 t]) ∧
   ∃j s,ae w j∧af F j s∧R j s∧af (fun k=>w.heap.size≤k∧k<j.heap.size) s w':=by
 have L:=aa I
 have j:∀k,w.heap.size≤k→¬F k:=fun k z h=>by have:=J k h;omega
 have A:=j (w.heap.size+1) (by omega)
 have B:=j (w.heap.size+2) (by omega)
 clear I J j
 go_enter Tryz.func258,Tryz.ntmps258
 go_wp2_with (go_at_call 270;refine(L.out _ kp).mono ?_;rintro e E ⟨rfl,q,N⟩;have O:=q.size;(try simp only[ai,au,World.a5]at O);have U:=q.cell (a:=⟨w.heap.size+1,0,none⟩) A (v:=.int .u8 0) (by simp[go_sem]);have W:=q.cell (a:=⟨w.heap.size+1,1,none⟩) A (v:=.int .u32 0) (by simp[go_sem]);have j:=fun o:Nat=>q.frozen (a:=⟨w.heap.size+1,o,none⟩) (by simp[go_sem]) A (by simp[go_sem]);have X:=q.cell (a:=⟨w.heap.size+2,0,none⟩) B (v:=.int .u8 0) (by simp[go_sem]);have Y:=q.cell (a:=⟨w.heap.size+2,1,none⟩) B (v:=.int .u32 0) (by simp[go_sem]);have j:=fun o:Nat=>q.frozen (a:=⟨w.heap.size+2,o,none⟩) (by simp[go_sem]) B (by simp[go_sem]);have S:w.heap.size+1<E.heap.size:=(by omega);have T:w.heap.size+2<E.heap.size:=(by omega))
 all_goals refine aq (v:=.tuple #[.agg #[.int .u8 lo.tag,.int .u32 lo.to],.agg #[.int .u8 hi.tag,.int .u32 hi.to],.int .u8 t]) (by simp[results,Tryz.results258,go_sem,S,T,U,W,X,Y]) rfl ⟨rfl,_,E,kp,q,N,?_⟩
 all_goals(try simp only[ai,au,World.a5])
 all_goals(repeat (first|with_reducible exact af.refl _ _|exact af.mono j (fun k _ z=>⟨z.1,by(try simp only[ai,au,World.a5]);have:=z.2;omega⟩)|refine af.setCell ?_ (Or.inl (by dsimp only;omega)) _|refine af.setCell ?_ (Or.inr (by dsimp only;omega)) _|with_reducible refine af.drewN ?_ _|with_reducible refine af.drew ?_|with_reducible refine af.alloc ?_ _))
theorem zc {F:Nat→Prop}(R:World→World→Prop)(sb:Nat)(l t:Int)(v lo hi:Edge)(w:World)(Z:sb<w.heap.size)(J:∀k,F k→k<w.heap.size)
  (I:∀j,ae w j→Calls Tryz.prog 271 #[.pointer (some ⟨sb,0,none⟩),.agg #[.int .u8 v.tag,.int .u32 v.to],.int .i64 l] j fun e w'=>e=.returned (.tuple #[.agg #[.int .u8 lo.tag,.int .u32 lo.to],.agg #[.int .u8 hi.tag,.int .u32 hi.to],.int .u8 t])∧af F j w'∧R j w') :
  Calls Tryz.prog 258 #[.pointer (some ⟨sb,0,none⟩),.int .u8 5,.agg #[.int .u8 v.tag,.int .u32 v.to],.int .i64 l] w fun e w'=>e=.returned (.tuple #[.agg #[.int .u8 lo.tag,.int .u32 lo.to],.agg #[.int .u8 hi.tag,.int .u32 hi.to],.int .u8 t]) ∧
   ∃j s,ae w j∧af F j s∧R j s∧af (fun k=>w.heap.size≤k∧k<j.heap.size) s w':=by
 have L:=aa I
 have j:∀k,w.heap.size≤k→¬F k:=fun k z h=>by have:=J k h;omega
 have A:=j (w.heap.size+1) (by omega)
 have B:=j (w.heap.size+2) (by omega)
 clear I J j
 go_enter Tryz.func258,Tryz.ntmps258
 go_wp2_with (go_at_call 271;refine(L.out _ kp).mono ?_;rintro e E ⟨rfl,q,N⟩;have O:=q.size;(try simp only[ai,au,World.a5]at O);have U:=q.cell (a:=⟨w.heap.size+1,0,none⟩) A (v:=.int .u8 0) (by simp[go_sem]);have W:=q.cell (a:=⟨w.heap.size+1,1,none⟩) A (v:=.int .u32 0) (by simp[go_sem]);have j:=fun o:Nat=>q.frozen (a:=⟨w.heap.size+1,o,none⟩) (by simp[go_sem]) A (by simp[go_sem]);have X:=q.cell (a:=⟨w.heap.size+2,0,none⟩) B (v:=.int .u8 0) (by simp[go_sem]);have Y:=q.cell (a:=⟨w.heap.size+2,1,none⟩) B (v:=.int .u32 0) (by simp[go_sem]);have j:=fun o:Nat=>q.frozen (a:=⟨w.heap.size+2,o,none⟩) (by simp[go_sem]) B (by simp[go_sem]);have S:w.heap.size+1<E.heap.size:=(by omega);have T:w.heap.size+2<E.heap.size:=(by omega))
 all_goals refine aq (v:=.tuple #[.agg #[.int .u8 lo.tag,.int .u32 lo.to],.agg #[.int .u8 hi.tag,.int .u32 hi.to],.int .u8 t]) (by simp[results,Tryz.results258,go_sem,S,T,U,W,X,Y]) rfl ⟨rfl,_,E,kp,q,N,?_⟩
 all_goals(try simp only[ai,au,World.a5])
 all_goals(repeat (first|with_reducible exact af.refl _ _|exact af.mono j (fun k _ z=>⟨z.1,by(try simp only[ai,au,World.a5]);have:=z.2;omega⟩)|refine af.setCell ?_ (Or.inl (by dsimp only;omega)) _|refine af.setCell ?_ (Or.inr (by dsimp only;omega)) _|with_reducible refine af.drewN ?_ _|with_reducible refine af.drew ?_|with_reducible refine af.alloc ?_ _))
theorem za (sb:Nat)(f l:Int)(v:Edge)(w:World)(A:sb<w.heap.size)(j:f≠1)(q:f≠2)(s:f≠3)(t:f≠4)(z:f≠5) :
  Calls Tryz.prog 258 #[.pointer (some ⟨sb,0,none⟩),.int .u8 f,.agg #[.int .u8 v.tag,.int .u32 v.to],.int .i64 l] w fun e w'=>e=.returned (.tuple #[.agg #[.int .u8 0,.int .u32 0],.agg #[.int .u8 0,.int .u32 0],.int .u8 4])∧ae w w':=by
 have A:(f==1)=false:=by simp[j]
 have A:(f==2)=false:=by simp[q]
 have A:(f==3)=false:=by simp[s]
 have A:(f==4)=false:=by simp[t]
 have A:(f==5)=false:=by simp[z]
 clear j q s t z
 go_enter Tryz.func258,Tryz.ntmps258
 go_wp2
 (try go_region)
 all_goals(try go_wp2)
 all_goals refine aq (v:=.tuple #[.agg #[.int .u8 0,.int .u32 0],.agg #[.int .u8 0,.int .u32 0],.int .u8 4]) (by simp[results,Tryz.results258,go_sem]) rfl ⟨rfl,kp⟩
theorem nY {F:Nat→Prop}{w:World}{sb:Nat}{M:St}(h:ak F w sb M)(f:Int)(e:Edge)(l:Int)(I:e.ok) :
  Calls Tryz.prog 258 #[.pointer (some ⟨sb,0,none⟩),.int .u8 f,.agg #[.int .u8 e.tag,.int .u32 e.to],.int .i64 l] w fun r w'=>
   r=.returned (.tuple #[.agg #[.int .u8 (cz M (fP M f e l)).tag,.int .u32 (cz M (fP M f e l)).to],.agg #[.int .u8 (bL M f (fP M f e l)).tag,.int .u32 (bL M f (fP M f e l)).to],.int .u8 (cK M (fP M f e l))])∧af F w w'∧ak (aC F w w') w' sb (cH M (fP M f e l)):=by
 by_cases J:f=1
 ·subst J;have s:fP M 1 e l=aj M 1 e l:=rfl;rw[s];refine(y9 (fun j q=>ak (aC F j q) q sb (cH M (aj M 1 e l))) sb l _ e _ _ w h.pos h.lt (fun j t=>vA (h.ad t) e l I)).mono ?_;rintro r w' ⟨rfl,j,q,z,A,B,E⟩;exact⟨rfl,B.after h.lt z A E⟩
 by_cases L:f=2
 ·subst L;have s:fP M 2 e l=aj M 2 e l:=rfl;rw[s];refine(zd (fun j q=>ak (aC F j q) q sb (cH M (aj M 2 e l))) sb l _ e _ _ w h.pos h.lt (fun j t=>Es (h.ad t) e l I)).mono ?_;rintro r w' ⟨rfl,j,q,z,A,B,E⟩;exact⟨rfl,B.after h.lt z A E⟩
 by_cases N:f=3
 ·subst N;have s:fP M 3 e l=aj M 3 e l:=rfl;rw[s];refine(y' (fun j q=>ak (aC F j q) q sb (cH M (aj M 3 e l))) sb l _ e _ _ w h.pos h.lt (fun j t=>wK (h.ad t) e l I)).mono ?_;rintro r w' ⟨rfl,j,q,z,A,B,E⟩;exact⟨rfl,B.after h.lt z A E⟩
 by_cases O:f=4
 ·subst O;have s:fP M 4 e l=aj M 4 e l:=rfl;rw[s];refine(zb (fun j q=>ak (aC F j q) q sb (cH M (aj M 4 e l))) sb l _ e _ _ w h.pos h.lt (fun j t=>xp (h.ad t) e l I)).mono ?_;rintro r w' ⟨rfl,j,q,z,A,B,E⟩;exact⟨rfl,B.after h.lt z A E⟩
 by_cases S:f=5
 ·subst S;have s:fP M 5 e l=aj M 5 e l:=rfl;rw[s];refine(zc (fun j q=>ak (aC F j q) q sb (cH M (aj M 5 e l))) sb l _ e _ _ w h.pos h.lt (fun j t=>Dx (h.ad t) e l I)).mono ?_;rintro r w' ⟨rfl,j,q,z,A,B,E⟩;exact⟨rfl,B.after h.lt z A E⟩
 have s:fP M f e l=.inl (⟨0,0⟩,⟨0,0⟩,4):=by unfold fP;rw[ag J,ag L,ag N,ag O,ag S]
 rw[s]
 exact(za sb f l e w h.pos J L N O S).mono fun r w' j=>⟨j.1,h.bf j.2⟩
noncomputable def dX (M:St)(f:Int)(e:Edge)(l:Int):Bool:=
 if f=1 then M.leads 1 e l else if f=2 then M.leads 2 e l else if f=3 then aZ M 3 e l else if f=4 then aZ M 4 e l else if f=5 then aZ M 5 e l else false
theorem vz {F:Nat→Prop}{w:World}{sb:Nat}{M:St}(h:ak F w sb M)(v:Edge)(l:Int)(z:v.ok) :
  Calls Tryz.prog 149 #[.pointer (some ⟨sb,0,none⟩),.agg #[.int .u8 v.tag,.int .u32 v.to],.int .i64 l] w fun r w'=>r=.returned (.bool (M.leads 1 v l))∧ae w w':=by
 have j:=aa (fun(s:World) (t:ae w s)=>dF (h.ad t) 1 v l z)
 clear h
 obtain⟨b,q⟩:∃b,b=M.leads 1 v l:=⟨_,rfl⟩
 rw[←q]at j ⊢
 clear q
 go_enter Tryz.func149,Tryz.ntmps149
 go_wp2_with fail
 refine(j.out _ kp).mono ?_
 rintro e w1 ⟨rfl,j⟩
 go_wp2_with fail
 go_ret
 exact⟨rfl,kp⟩
theorem Er {F:Nat→Prop}{w:World}{sb:Nat}{M:St}(h:ak F w sb M)(v:Edge)(l:Int)(z:v.ok) :
  Calls Tryz.prog 150 #[.pointer (some ⟨sb,0,none⟩),.agg #[.int .u8 v.tag,.int .u32 v.to],.int .i64 l] w fun r w'=>r=.returned (.bool (M.leads 2 v l))∧ae w w':=by
 have j:=aa (fun(s:World) (t:ae w s)=>dF (h.ad t) 2 v l z)
 clear h
 obtain⟨b,q⟩:∃b,b=M.leads 2 v l:=⟨_,rfl⟩
 rw[←q]at j ⊢
 clear q
 go_enter Tryz.func150,Tryz.ntmps150
 go_wp2_with fail
 refine(j.out _ kp).mono ?_
 rintro e w1 ⟨rfl,j⟩
 go_wp2_with fail
 go_ret
 exact⟨rfl,kp⟩
theorem yU (sb:Nat)(l:Int)(b:Bool)(v:Edge)(w:World)
  (q:∀j,ae w j→Calls Tryz.prog 149 #[.pointer (some ⟨sb,0,none⟩),.agg #[.int .u8 v.tag,.int .u32 v.to],.int .i64 l] j fun e w'=>e=.returned (.bool b)∧ae j w') :
  Calls Tryz.prog 92 #[.pointer (some ⟨sb,0,none⟩),.int .u8 1,.agg #[.int .u8 v.tag,.int .u32 v.to],.int .i64 l] w fun e w'=>e=.returned (.bool b)∧ae w w':=by
 have s:=aa q
 clear q
 go_enter Tryz.func92,Tryz.ntmps92
 go_wp2_with fail
 refine(s.out _ kp).mono ?_
 rintro e w1 ⟨rfl,j⟩
 go_wp2_with fail
 go_ret
 exact⟨rfl,kp⟩
theorem yZ (sb:Nat)(l:Int)(b:Bool)(v:Edge)(w:World)
  (q:∀j,ae w j→Calls Tryz.prog 150 #[.pointer (some ⟨sb,0,none⟩),.agg #[.int .u8 v.tag,.int .u32 v.to],.int .i64 l] j fun e w'=>e=.returned (.bool b)∧ae j w') :
  Calls Tryz.prog 92 #[.pointer (some ⟨sb,0,none⟩),.int .u8 2,.agg #[.int .u8 v.tag,.int .u32 v.to],.int .i64 l] w fun e w'=>e=.returned (.bool b)∧ae w w':=by
 have s:=aa q
 clear q
 go_enter Tryz.func92,Tryz.ntmps92
 go_wp2_with fail
 refine(s.out _ kp).mono ?_
 rintro e w1 ⟨rfl,j⟩
 go_wp2_with fail
 go_ret
 exact⟨rfl,kp⟩
theorem yV (sb:Nat)(l:Int)(b:Bool)(v:Edge)(w:World)
  (q:∀j,ae w j→Calls Tryz.prog 151 #[.pointer (some ⟨sb,0,none⟩),.agg #[.int .u8 v.tag,.int .u32 v.to],.int .i64 l] j fun e w'=>e=.returned (.bool b)∧ae j w') :
  Calls Tryz.prog 92 #[.pointer (some ⟨sb,0,none⟩),.int .u8 3,.agg #[.int .u8 v.tag,.int .u32 v.to],.int .i64 l] w fun e w'=>e=.returned (.bool b)∧ae w w':=by
 have s:=aa q
 clear q
 go_enter Tryz.func92,Tryz.ntmps92
 go_wp2_with fail
 refine(s.out _ kp).mono ?_
 rintro e w1 ⟨rfl,j⟩
 go_wp2_with fail
 go_ret
 exact⟨rfl,kp⟩
theorem yX (sb:Nat)(l:Int)(b:Bool)(v:Edge)(w:World)
  (q:∀j,ae w j→Calls Tryz.prog 152 #[.pointer (some ⟨sb,0,none⟩),.agg #[.int .u8 v.tag,.int .u32 v.to],.int .i64 l] j fun e w'=>e=.returned (.bool b)∧ae j w') :
  Calls Tryz.prog 92 #[.pointer (some ⟨sb,0,none⟩),.int .u8 4,.agg #[.int .u8 v.tag,.int .u32 v.to],.int .i64 l] w fun e w'=>e=.returned (.bool b)∧ae w w':=by
 have s:=aa q
 clear q
 go_enter Tryz.func92,Tryz.ntmps92
 go_wp2_with fail
 refine(s.out _ kp).mono ?_
 rintro e w1 ⟨rfl,j⟩
 go_wp2_with fail
 go_ret
 exact⟨rfl,kp⟩
theorem yY (sb:Nat)(l:Int)(b:Bool)(v:Edge)(w:World)
  (q:∀j,ae w j→Calls Tryz.prog 153 #[.pointer (some ⟨sb,0,none⟩),.agg #[.int .u8 v.tag,.int .u32 v.to],.int .i64 l] j fun e w'=>e=.returned (.bool b)∧ae j w') :
  Calls Tryz.prog 92 #[.pointer (some ⟨sb,0,none⟩),.int .u8 5,.agg #[.int .u8 v.tag,.int .u32 v.to],.int .i64 l] w fun e w'=>e=.returned (.bool b)∧ae w w':=by
 have s:=aa q
 clear q
 go_enter Tryz.func92,Tryz.ntmps92
 go_wp2_with fail
 refine(s.out _ kp).mono ?_
 rintro e w1 ⟨rfl,j⟩
 go_wp2_with fail
 go_ret
 exact⟨rfl,kp⟩
theorem yW (sb:Nat)(f l:Int)(v:Edge)(w:World)(j:f≠1)(q:f≠2)(s:f≠3)(t:f≠4)(z:f≠5) :
  Calls Tryz.prog 92 #[.pointer (some ⟨sb,0,none⟩),.int .u8 f,.agg #[.int .u8 v.tag,.int .u32 v.to],.int .i64 l] w fun e w'=>e=.returned (.bool false)∧ae w w':=by
 have A:(f==1)=false:=by simp[j]
 have A:(f==2)=false:=by simp[q]
 have A:(f==3)=false:=by simp[s]
 have A:(f==4)=false:=by simp[t]
 have A:(f==5)=false:=by simp[z]
 clear j q s t z
 go_enter Tryz.func92,Tryz.ntmps92
 go_wp2
 go_ret
 exact⟨rfl,kp⟩
theorem qz {F:Nat→Prop}{w:World}{sb:Nat}{M:St}(h:ak F w sb M)(f:Int)(e:Edge)(l:Int)(q:e.ok) :
  Calls Tryz.prog 92 #[.pointer (some ⟨sb,0,none⟩),.int .u8 f,.agg #[.int .u8 e.tag,.int .u32 e.to],.int .i64 l] w fun r w'=>r=.returned (.bool (dX M f e l))∧ae w w':=by
 by_cases t:f=1
 ·subst t;exact yU sb l _ e w (fun s j=>vz (h.ad j) e l q)
 by_cases z:f=2
 ·subst z;exact yZ sb l _ e w (fun s j=>Er (h.ad j) e l q)
 by_cases A:f=3
 ·subst A;exact yV sb l _ e w (fun s j=>wJ (h.ad j) e l q)
 by_cases B:f=4
 ·subst B;exact yX sb l _ e w (fun s j=>xo (h.ad j) e l q)
 by_cases E:f=5
 ·subst E;exact yY sb l _ e w (fun s j=>Dw (h.ad j) e l q)
 have I:dX M f e l=false:=by unfold dX;rw[ag t,ag z,ag A,ag B,ag E]
 rw[I]
 exact yW sb f l e w t z A B E
theorem Bm {F:Nat→Prop}{w:World}{sb:Nat}{M:St}{s:List (Int×Rec)}(h:aV F w sb M s)(v:Edge)(l:Int)(z:v.ok) :
  Calls Tryz.prog 83 #[.pointer (some ⟨sb,0,none⟩),.agg #[.int .u8 v.tag,.int .u32 v.to],.int .i64 l] w fun r w'=>r=.returned (.bool (M.leads 1 v l))∧ae w w':=by
 have j:=aa (fun(s:World) (t:ae w s)=>kA (h.ad t) 1 v l z)
 clear h
 obtain⟨b,q⟩:∃b,b=M.leads 1 v l:=⟨_,rfl⟩
 rw[←q]at j ⊢
 clear q
 go_enter Tryz.func83,Tryz.ntmps83
 go_wp2_with fail
 refine(j.out _ kp).mono ?_
 rintro e w1 ⟨rfl,j⟩
 go_wp2_with fail
 go_ret
 exact⟨rfl,kp⟩
theorem Bn {F:Nat→Prop}{w:World}{sb:Nat}{M:St}{s:List (Int×Rec)}(h:aV F w sb M s)(v:Edge)(l:Int)(z:v.ok) :
  Calls Tryz.prog 84 #[.pointer (some ⟨sb,0,none⟩),.agg #[.int .u8 v.tag,.int .u32 v.to],.int .i64 l] w fun r w'=>r=.returned (.bool (M.leads 2 v l))∧ae w w':=by
 have j:=aa (fun(s:World) (t:ae w s)=>kA (h.ad t) 2 v l z)
 clear h
 obtain⟨b,q⟩:∃b,b=M.leads 2 v l:=⟨_,rfl⟩
 rw[←q]at j ⊢
 clear q
 go_enter Tryz.func84,Tryz.ntmps84
 go_wp2_with fail
 refine(j.out _ kp).mono ?_
 rintro e w1 ⟨rfl,j⟩
 go_wp2_with fail
 go_ret
 exact⟨rfl,kp⟩
theorem BU (sb:Nat)(l:Int)(b:Bool)(v:Edge)(w:World)
  (q:∀j,ae w j→Calls Tryz.prog 83 #[.pointer (some ⟨sb,0,none⟩),.agg #[.int .u8 v.tag,.int .u32 v.to],.int .i64 l] j fun e w'=>e=.returned (.bool b)∧ae j w') :
  Calls Tryz.prog 37 #[.pointer (some ⟨sb,0,none⟩),.int .u8 1,.agg #[.int .u8 v.tag,.int .u32 v.to],.int .i64 l] w fun e w'=>e=.returned (.bool b)∧ae w w':=by
 have s:=aa q
 clear q
 go_enter Tryz.func37,Tryz.ntmps37
 go_wp2_with fail
 refine(s.out _ kp).mono ?_
 rintro e w1 ⟨rfl,j⟩
 go_wp2_with fail
 go_ret
 exact⟨rfl,kp⟩
theorem BZ (sb:Nat)(l:Int)(b:Bool)(v:Edge)(w:World)
  (q:∀j,ae w j→Calls Tryz.prog 84 #[.pointer (some ⟨sb,0,none⟩),.agg #[.int .u8 v.tag,.int .u32 v.to],.int .i64 l] j fun e w'=>e=.returned (.bool b)∧ae j w') :
  Calls Tryz.prog 37 #[.pointer (some ⟨sb,0,none⟩),.int .u8 2,.agg #[.int .u8 v.tag,.int .u32 v.to],.int .i64 l] w fun e w'=>e=.returned (.bool b)∧ae w w':=by
 have s:=aa q
 clear q
 go_enter Tryz.func37,Tryz.ntmps37
 go_wp2_with fail
 refine(s.out _ kp).mono ?_
 rintro e w1 ⟨rfl,j⟩
 go_wp2_with fail
 go_ret
 exact⟨rfl,kp⟩
theorem BV (sb:Nat)(l:Int)(b:Bool)(v:Edge)(w:World)
  (q:∀j,ae w j→Calls Tryz.prog 85 #[.pointer (some ⟨sb,0,none⟩),.agg #[.int .u8 v.tag,.int .u32 v.to],.int .i64 l] j fun e w'=>e=.returned (.bool b)∧ae j w') :
  Calls Tryz.prog 37 #[.pointer (some ⟨sb,0,none⟩),.int .u8 3,.agg #[.int .u8 v.tag,.int .u32 v.to],.int .i64 l] w fun e w'=>e=.returned (.bool b)∧ae w w':=by
 have s:=aa q
 clear q
 go_enter Tryz.func37,Tryz.ntmps37
 go_wp2_with fail
 refine(s.out _ kp).mono ?_
 rintro e w1 ⟨rfl,j⟩
 go_wp2_with fail
 go_ret
 exact⟨rfl,kp⟩
theorem BX (sb:Nat)(l:Int)(b:Bool)(v:Edge)(w:World)
  (q:∀j,ae w j→Calls Tryz.prog 86 #[.pointer (some ⟨sb,0,none⟩),.agg #[.int .u8 v.tag,.int .u32 v.to],.int .i64 l] j fun e w'=>e=.returned (.bool b)∧ae j w') :
  Calls Tryz.prog 37 #[.pointer (some ⟨sb,0,none⟩),.int .u8 4,.agg #[.int .u8 v.tag,.int .u32 v.to],.int .i64 l] w fun e w'=>e=.returned (.bool b)∧ae w w':=by
 have s:=aa q
 clear q
 go_enter Tryz.func37,Tryz.ntmps37
 go_wp2_with fail
 refine(s.out _ kp).mono ?_
 rintro e w1 ⟨rfl,j⟩
 go_wp2_with fail
 go_ret
 exact⟨rfl,kp⟩
theorem BY (sb:Nat)(l:Int)(b:Bool)(v:Edge)(w:World)
  (q:∀j,ae w j→Calls Tryz.prog 87 #[.pointer (some ⟨sb,0,none⟩),.agg #[.int .u8 v.tag,.int .u32 v.to],.int .i64 l] j fun e w'=>e=.returned (.bool b)∧ae j w') :
  Calls Tryz.prog 37 #[.pointer (some ⟨sb,0,none⟩),.int .u8 5,.agg #[.int .u8 v.tag,.int .u32 v.to],.int .i64 l] w fun e w'=>e=.returned (.bool b)∧ae w w':=by
 have s:=aa q
 clear q
 go_enter Tryz.func37,Tryz.ntmps37
 go_wp2_with fail
 refine(s.out _ kp).mono ?_
 rintro e w1 ⟨rfl,j⟩
 go_wp2_with fail
 go_ret
 exact⟨rfl,kp⟩
theorem BW (sb:Nat)(f l:Int)(v:Edge)(w:World)(j:f≠1)(q:f≠2)(s:f≠3)(t:f≠4)(z:f≠5) :
  Calls Tryz.prog 37 #[.pointer (some ⟨sb,0,none⟩),.int .u8 f,.agg #[.int .u8 v.tag,.int .u32 v.to],.int .i64 l] w fun e w'=>e=.returned (.bool false)∧ae w w':=by
 have A:(f==1)=false:=by simp[j]
 have A:(f==2)=false:=by simp[q]
 have A:(f==3)=false:=by simp[s]
 have A:(f==4)=false:=by simp[t]
 have A:(f==5)=false:=by simp[z]
 clear j q s t z
 go_enter Tryz.func37,Tryz.ntmps37
 go_wp2
 go_ret
 exact⟨rfl,kp⟩
theorem Br {F:Nat→Prop}{w:World}{sb:Nat}{M:St}{I:List (Int×Rec)}(h:aV F w sb M I)(f:Int)(e:Edge)(l:Int)(q:e.ok) :
  Calls Tryz.prog 37 #[.pointer (some ⟨sb,0,none⟩),.int .u8 f,.agg #[.int .u8 e.tag,.int .u32 e.to],.int .i64 l] w fun r w'=>r=.returned (.bool (dX M f e l))∧ae w w':=by
 by_cases t:f=1
 ·subst t;exact BU sb l _ e w (fun s j=>Bm (h.ad j) e l q)
 by_cases z:f=2
 ·subst z;exact BZ sb l _ e w (fun s j=>Bn (h.ad j) e l q)
 by_cases A:f=3
 ·subst A;exact BV sb l _ e w (fun s j=>Bo (h.ad j) e l q)
 by_cases B:f=4
 ·subst B;exact BX sb l _ e w (fun s j=>Bp (h.ad j) e l q)
 by_cases E:f=5
 ·subst E;exact BY sb l _ e w (fun s j=>Bq (h.ad j) e l q)
 have J:dX M f e l=false:=by unfold dX;rw[ag t,ag z,ag A,ag B,ag E]
 rw[J]
 exact BW sb f l e w t z A B E
end Go.Proofs.YtafkamlhimkbmaaGreat
