/-
  What the walks of View lean on.
-/
import Derived.Test.YtafkamlhimkbmaaGreatPWordsR
import Derived.Lib.SliceRun
import Derived.BigRegion
namespace Go.Proofs.YtafkamlhimkbmaaGreat
set_option maxRecDepth 1000000
set_option maxHeartbeats 8000000
set_option linter.unusedSimpArgs false
set_option linter.unusedVariables false
open Go.RowKit
theorem ae.frz {w s:World}(h:ae w s){a:Addr}(u:a.block<w.heap.size)(t:w.frozen? a=false):s.frozen? a=false:=(Below.frozen h u).trans t
theorem ae.c8 {w s:World}(h:ae w s){a:Addr}(u:a.block<w.heap.size:=by simp)(t:w.frozen? a=false:=by simp[go_sem]):s.frozen? a=false:=h.frz u t
theorem jI (x y:Edge)(h:x=y)(s:World):(binOp .eql 52 (.agg #[.int .u8 x.tag,.int .u32 x.to]) (.agg #[.int .u8 y.tag,.int .u32 y.to])).run Tryz.prog s=.ok (.bool true) s:=by rw[kN];simp[h]
theorem iE (x y:Edge)(h:x≠y)(s:World):(binOp .eql 52 (.agg #[.int .u8 x.tag,.int .u32 x.to]) (.agg #[.int .u8 y.tag,.int .u32 y.to])).run Tryz.prog s=.ok (.bool false) s:=by rw[kN];simp[h]
def aM (b:Nat)(ws:List Int):Prop:=∀x∈ws,0≤x∧x<b
def az (b:Nat):List Int→Int
 |[]=>0
 |x::l=>x+b*az b l
theorem kS (b:Nat)(a c:List Int):az b (a++c)=az b a+(b:Int) ^ a.length*az b c:=by
 induction a with
 |nil=>simp[az]
 |cons x l s=>
  show x+b*az b (l++c)=x+b*az b l+(b:Int) ^ (l.length+1)*az b c;rw[s,Int.mul_add,Int.pow_succ,←Int.mul_assoc,Int.mul_comm ((b:Int) ^ l.length) b,Int.add_assoc]
theorem mV (b k:Nat):az b (List.replicate k 0)=0:=by
 induction k with
 |zero=>rfl
 |succ k s=>
  rw[List.replicate_succ];show(0:Int)+b*az b (List.replicate k 0)=0;rw[s];simp
theorem js {b:Nat}:∀{a:List Int},aM b a→0≤az b a:=by
 intro a;induction a with
 |nil=>intro _;exact Int.le_refl _
 |cons x l t=>
  intro h;have s:=t (fun y t=>h y (List.mem_cons_of_mem _ t));have t:=h x List.mem_cons_self;show 0≤x+b*az b l;have:=Int.mul_nonneg (show(0:Int)≤b by omega) s;omega
theorem kT {b:Nat}:∀{a:List Int},aM b a→az b a<(b:Int) ^ a.length:=by
 intro a;induction a with
 |nil=>intro _;exact Int.zero_lt_one
 |cons x l t=>
  intro h;have s:=t (fun y t=>h y (List.mem_cons_of_mem _ t));have t:=h x List.mem_cons_self;show x+b*az b l<(b:Int) ^ (l.length+1);rw[Int.pow_succ,Int.mul_comm _ (b:Int)];have:=Int.mul_le_mul_of_nonneg_left (show az b l+1≤(b:Int) ^ l.length from s) (show(0:Int)≤b by omega);rw[Int.mul_add,Int.mul_one]at this;omega
def ar (b:Nat)(v:Nat):List Int:=if h:v=0∨b<2 then []else((v%b:Nat):Int)::ar b (v / b)
termination_by v
decreasing_by exact Nat.div_lt_self (by omega) (by omega)
theorem fM (b:Nat):ar b 0=[]:=by rw[ar];simp
theorem jj {b v:Nat}(h:v≠0)(s:2≤b):ar b v=((v%b:Nat):Int)::ar b (v / b):=by rw[ar,dif_neg (by omega)]
theorem ff {b:Nat}(s:2≤b):∀v:Nat,az b (ar b v)=v:=by
 intro v;induction v using Nat.strongRecOn with
 |_ v t=>
  by_cases h:v=0;·rw[h,fM];rfl
  ·rw[jj h s];show((v%b:Nat):Int)+b*az b (ar b (v / b))=v;rw[t _ (Nat.div_lt_self (by omega) (by omega))];have:=Nat.mod_add_div v b;omega
theorem ft {b:Nat}(t:2≤b):∀v:Nat,aM b (ar b v):=by
 intro v;induction v using Nat.strongRecOn with
 |_ v u=>
  by_cases h:v=0;·rw[h,fM];intro x s;cases s
  ·rw[jj h t];intro x s;rcases List.mem_cons.1 s with s|s
   ·have:=Nat.mod_lt v (show b > 0 by omega);omega
   ·exact u _ (Nat.div_lt_self (by omega) (by omega)) x s
def jz (ws:List Int):Prop:=ws.getLast?≠some 0
theorem qe:jz []:=by intro h;cases h
theorem qf {x:Int}{l:List Int}(h:jz (x::l)):jz l:=by
 cases l with
 |nil=>exact qe
 |cons y l=>intro e;exact h (by rw[List.getLast?_cons_cons];exact e)
theorem Aa {b:Nat}(E:2≤b){ws:List Int}(s:aM b ws)(t:jz ws)(z:ws≠[]):0<az b ws:=by
 induction ws with
 |nil=>exact absurd rfl z
 |cons x l D=>
  show 0<x+b*az b l;cases l with
  |nil=>
   have:=s x List.mem_cons_self;have z:x≠0:=fun e=>t (by rw[e];rfl);show 0<x+b*0;omega
  |cons y l=>
   have u:=D (fun D z=>s D (List.mem_cons_of_mem _ z)) (qf t) (by simp);have t:=s x List.mem_cons_self;have:=Int.mul_pos (show(0:Int)<b by omega) u;omega
theorem wh {b:Nat}(t:2≤b):∀{ws:List Int},aM b ws→jz ws→ar b (az b ws).toNat=ws:=by
 intro ws;induction ws with
 |nil=>intro _ _;exact fM b
 |cons x l J=>
  intro s D;have E:=s x List.mem_cons_self;have z:aM b l:=fun I E=>s I (List.mem_cons_of_mem _ E);have E:=Aa t s D (by simp);have s:=js z;obtain⟨n,u⟩:∃n:Nat,az b l=(n:Int):=⟨(az b l).toNat,by omega⟩;obtain⟨k,s⟩:∃k:Nat,x=(k:Int):=⟨x.toNat,by omega⟩
  have I:(az b (x::l)).toNat=k+b*n:=by
   show(x+b*az b l).toNat=_;rw[u,s,←Int.natCast_mul,←Int.natCast_add,Int.toNat_natCast]
  have E:=J z (qf D);rw[u,Int.toNat_natCast]at E;rw[jj (by omega) t,I,Nat.add_mul_mod_self_left,Nat.mod_eq_of_lt (by omega),Nat.add_mul_div_left _ _ (by omega),Nat.div_eq_of_lt (by omega),Nat.zero_add,E,s]
theorem eh {b:Nat}(s:2≤b){v k:Nat}(h:v<b ^ k):(ar b v).length≤k:=by
 induction k generalizing v with
 |zero=>
  have:v=0:=by simp at h;exact h
  rw[this,fM];exact Nat.le_refl _
 |succ k t=>
  by_cases h0:v=0;·rw[h0,fM];exact Nat.zero_le _
  ·rw[jj h0 s]
   have:v / b<b ^ k:=by
    rw[Nat.div_lt_iff_lt_mul (by omega),←Nat.pow_succ];exact h
   have:=t this;simp only[List.length_cons];omega
theorem fs {b:Nat}(s:2≤b){v k:Nat}(h:(ar b v).length≤k):v<b ^ k:=by
 have:=kT (ft s v);rw[ff s]at this
 have s:v<b ^ (ar b v).length:=by
  have e:((b ^ (ar b v).length:Nat):Int)=(b:Int) ^ (ar b v).length:=Int.natCast_pow _ _;omega
 exact Nat.lt_of_lt_of_le s (Nat.pow_le_pow_right (by omega) h)
theorem Av {b:Nat}{ws:List Int}{n:Nat}(h:∀i x,n≤i→ws[i]?=some x→x=0):az b (ws.take n)=az b ws:=by
 have e:ws=ws.take n++List.replicate (ws.length-n) 0:=by
  conv=>lhs;rw[←List.take_append_drop n ws]
  congr 1
  refine List.eq_replicate_iff.2 ⟨List.length_drop,fun x s=>?_⟩;obtain⟨i,hi⟩:=List.mem_iff_getElem?.1 s;rw[List.getElem?_drop]at hi;exact h _ x (by omega) hi
 conv=>rhs;rw[e,kS,mV,Int.mul_zero,Int.add_zero]
theorem Au {b:Nat}(u:2≤b){ws:List Int}{n:Nat}(E:aM b ws)(z:n≤ws.length)(h:∀i x,n≤i→ws[i]?=some x→x=0)(s:n=0∨∃x,ws[n-1]?=some x∧x≠0):ws.take n=ar b (az b ws).toNat:=by
 rw[←Av h];refine(wh u (fun x t=>E x (List.mem_of_mem_take t)) ?_).symm;rcases s with s|⟨x,t,D⟩;·rw[s];exact qe
 ·intro e;rw[List.getLast?_eq_getElem?,List.length_take,Nat.min_eq_left z,List.getElem?_take]at e;split at e
  ·rw[t]at e;exact D (Option.some.inj e)
  ·cases e
theorem m8 {ws:List Int}{i:Nat}{x:Int}(h:ws[i]?=some x):ws.take (i+1)=ws.take i++[x]:=by
 rw[List.take_add_one,h];rfl
theorem kU (b:Nat){ws:List Int}{i:Nat}{x:Int}(h:ws[i]?=some x):az b (ws.take (i+1))=az b (ws.take i)+(b:Int) ^ i*x:=by
 have hi:i<ws.length:=(List.getElem?_eq_some_iff.1 h).1;rw[m8 h,kS,List.length_take,Nat.min_eq_left (by omega)];show _+_*(x+b*0)=_;rw[Int.mul_zero,Int.add_zero]
theorem mU (b:Nat){ws:List Int}{i:Nat}{x y:Int}(h:ws[i]?=some x):az b (ws.set i y)=az b ws+(b:Int) ^ i*(y-x):=by
 induction ws generalizing i with
 |nil=>simp at h
 |cons s l t=>
  cases i with
  |zero=>
   simp at h;subst h;show y+b*az b l=s+b*az b l+(b:Int) ^ 0*(y-s);simp;omega
  |succ i=>
   simp at h;show s+b*az b (l.set i y)=s+b*az b l+(b:Int) ^ (i+1)*(y-x);rw[t h,Int.mul_add,Int.pow_succ,Int.mul_comm ((b:Int) ^ i) b,Int.mul_assoc,Int.add_assoc]
theorem aM.tail {b:Nat}{x:Int}{l:List Int}(h:aM b (x::l)):aM b l:=fun y s=>h y (List.mem_cons_of_mem _ s)
theorem aM.head {b:Nat}{x:Int}{l:List Int}(h:aM b (x::l)):0≤x∧x<b:=h x List.mem_cons_self
theorem aM.cons {b:Nat}{x:Int}{l:List Int}(s:0≤x∧x<b)(h:aM b l):aM b (x::l):=fun y t=>by
 rcases List.mem_cons.1 t with e|e;·rw[e];exact s
 ·exact h y e
theorem aM.drop {b:Nat}{l:List Int}(h:aM b l)(n:Nat):aM b (l.drop n):=fun x s=>h x (List.mem_of_mem_drop s)
theorem aM.take {b:Nat}{l:List Int}(h:aM b l)(n:Nat):aM b (l.take n):=fun x s=>h x (List.mem_of_mem_take s)
theorem aM.set {b:Nat}{l:List Int}(h:aM b l)(n:Nat){y:Int}(t:0≤y∧y<b):aM b (l.set n y):=fun x s=>by
 rcases List.mem_or_eq_of_mem_set s with e|e;·exact h x e
 ·rw[e];exact t
theorem Ao {b:Nat}(s:0<b)(n:Nat):aM b (List.replicate n 0):=fun x s=>by
 rw[List.eq_of_mem_replicate s];omega
def eM (b:Nat):Nat→List Int→List Int→Int→List Int
 |0,_,_,c=>[c]
 |n+1,x,y,c=>(x.headD 0+y.headD 0+c)%b::eM b n x.tail y.tail ((x.headD 0+y.headD 0+c) / b)
theorem mT (b:Nat)(l:List Int):az b l=l.headD 0+b*az b l.tail:=by
 cases l with
 |nil=>show(0:Int)=0+b*0;omega
 |cons x l=>rfl
theorem qO (b:Nat):∀(n:Nat) (x y:List Int) (c:Int),x.length≤n→y.length≤n→az b (eM b n x y c)=az b x+az b y+c:=by
 intro n;induction n with
 |zero=>
  intro x y c s t;have:x=[]:=by simpa using s
  have:y=[]:=by simpa using t
  subst_vars
  show c+b*0=0+0+c;omega
 |succ n u=>
  intro x y c s t;show(x.headD 0+y.headD 0+c)%b+b*az b (eM b n x.tail y.tail ((x.headD 0+y.headD 0+c) / b))=_;rw[u _ _ _ (by rw[List.length_tail];omega) (by rw[List.length_tail];omega),mT b x,mT b y];have h:=Int.emod_add_mul_ediv (x.headD 0+y.headD 0+c) b;rw[Int.mul_add,Int.mul_add];omega
theorem lT {b:Nat}(s:0<b){l:List Int}(h:aM b l):0≤l.headD 0∧l.headD 0<b:=by
 cases l with
 |nil=>show(0:Int)≤0∧(0:Int)<b;omega
 |cons x l=>exact h.head
theorem aM.tl {b:Nat}{l:List Int}(h:aM b l):aM b l.tail:=by
 cases l with
 |nil=>exact h
 |cons x l=>exact h.tail
theorem ll {b:Nat}{x y c:Int}(t:0≤x∧x<b)(u:0≤y∧y<b)(s:0≤c∧c≤1):0≤(x+y+c) / b∧(x+y+c) / b≤1:=by
 have s:(0:Int)<b:=by omega
 refine⟨Int.ediv_nonneg (by omega) (by omega),?_⟩;have:(x+y+c) / b<2:=Int.ediv_lt_of_lt_mul s (by omega);omega
theorem qN {b:Nat}(u:2≤b):∀(n:Nat) (x y:List Int) (c:Int),0≤c∧c≤1→aM b x→aM b y→aM b (eM b n x y c):=by
 intro n;induction n with
 |zero=>intro x y c t _ _;exact aM.cons (by omega) (fun y s=>by cases s)
 |succ n E=>
  intro x y c t u s;have z:=lT (by omega) u;have D:=lT (by omega) s;exact aM.cons ⟨Int.emod_nonneg _ (by omega),Int.emod_lt_of_pos _ (by omega)⟩ (E _ _ _ (ll z D t) u.tl s.tl)
theorem qM (b:Nat):∀(n:Nat) (x y:List Int) (c:Int),(eM b n x y c).length=n+1:=by
 intro n;induction n with
 |zero=>intro x y c;rfl
 |succ n s=>intro x y c;show(eM b n _ _ _).length+1=_;rw[s]
theorem kj {l:List Int}{i:Nat}{x:Int}(h:l[i]?=some x):(l.drop i).headD 0=x:=by
 rw[List.headD_eq_head?_getD,List.head?_drop,h];rfl
theorem nG {l:List Int}{i:Nat}(h:l.length≤i):(l.drop i).headD 0=0:=by
 rw[List.drop_of_length_le h];rfl
theorem nf {b n i:Nat}{x y os R:List Int}{c:Int}(hi:i<n)(h:os++eM b (n-i) (x.drop i) (y.drop i) c=R) :
  os++[((x.drop i).headD 0+(y.drop i).headD 0+c)%b]++eM b (n-(i+1)) (x.drop (i+1)) (y.drop (i+1)) (((x.drop i).headD 0+(y.drop i).headD 0+c) / b)=R:=by
 rw[show n-i=(n-(i+1))+1 by omega]at h
 rw[List.append_assoc,←h]
 show os++(_::eM b _ _ _ _)=os++(_::eM b _ (x.drop i).tail (y.drop i).tail _)
 rw[List.tail_drop,List.tail_drop]
def ej (b:Nat):List Int→List Int→Int→List Int
 |[],_,_=>[]
 |x::l,y,c=>(x+b-y.headD 0-c)%b::ej b l y.tail (if x<y.headD 0+c then 1 else 0)
def iu (b:Nat):List Int→List Int→Int→Int
 |[],_,c=>c
 |x::l,y,c=>iu b l y.tail (if x<y.headD 0+c then 1 else 0)
theorem pU (b:Nat):∀(x y:List Int) (c:Int),(ej b x y c).length=x.length:=by
 intro x;induction x with
 |nil=>intro y c;rfl
 |cons a l s=>intro y c;show(ej b l _ _).length+1=l.length+1;rw[s]
theorem zg {b:Nat}{x y c:Int}(t:0≤x∧x<b)(u:0≤y∧y<b)(s:0≤c∧c≤1):(x+b-y-c)%b=x-y-c+b*(if x<y+c then 1 else 0):=by
 split
 ·rw[Int.mul_one,Int.emod_eq_of_lt (by omega) (by omega)];omega
 ·rw[show x+b-y-c=(x-y-c)+b by omega,Int.add_emod_right,Int.emod_eq_of_lt (by omega) (by omega)];omega
theorem zd {b:Nat}(O:2≤b):∀(x y:List Int) (c:Int),aM b x→aM b y→y.length≤x.length→0≤c∧c≤1→az b (ej b x y c)-(b:Int) ^ x.length*iu b x y c=az b x-az b y-c:=by
 intro x;induction x with
 |nil=>
  intro y c _ _ t _;have:y=[]:=by simpa using t
  subst this;show(0:Int)-(b:Int) ^ 0*c=0-0-c;rw[Int.pow_zero];omega
 |cons a l N=>
  intro y c u z t I;have D:=u.head;have E:=lT (by omega) z;have J:y.tail.length≤l.length:=by rw[List.length_tail];simp only[List.length_cons]at t;omega
  have s:=N y.tail (if a<y.headD 0+c then 1 else 0) u.tail z.tl J (by split<;>omega);show(a+b-y.headD 0-c)%b+b*az b (ej b l y.tail (if a<y.headD 0+c then 1 else 0))-(b:Int) ^ (l.length+1)*iu b l y.tail (if a<y.headD 0+c then 1 else 0)=a+b*az b l-az b y-c;rw[zg D E I,mT b y,Int.pow_succ,Int.mul_comm ((b:Int) ^ l.length) b,Int.mul_assoc];generalize t:(if a<y.headD 0+c then(1:Int)else 0)=k at s;generalize az b (ej b l y.tail k)=u at s;generalize (b:Int) ^ l.length*iu b l y.tail k=t at s;have z:(b:Int)*(u-t)=b*(az b l-az b y.tail-k):=by rw[s]
  rw[Int.mul_sub,Int.mul_sub,Int.mul_sub]at z;omega
theorem pV {b:Nat}(t:2≤b):∀(x y:List Int) (c:Int),aM b (ej b x y c):=by
 intro x;induction x with
 |nil=>intro y c u s;cases s
 |cons a l s=>intro y c;exact aM.cons ⟨Int.emod_nonneg _ (by omega),Int.emod_lt_of_pos _ (by omega)⟩ (s _ _)
theorem zh (b:Nat):∀(x y:List Int) (c:Int),0≤c∧c≤1→0≤iu b x y c∧iu b x y c≤1:=by
 intro x;induction x with
 |nil=>intro y c h;exact h
 |cons a l s=>intro y c h;exact s _ _ (by split<;>omega)
theorem ze {b:Nat}(s:2≤b){x y:List Int}(u:aM b x)(z:aM b y)(t:y.length≤x.length)(D:az b y≤az b x):az b (ej b x y 0)=az b x-az b y:=by
 have h:=zd s x y 0 u z t (by omega);have t:=zh b x y 0 (by omega);have t:=kT (pV s x y 0);rw[pU]at t;have h0:iu b x y 0=0∨iu b x y 0=1:=by omega
 rcases h0 with h0|h0;·rw[h0]at h;omega
 ·rw[h0]at h;omega
theorem pW {b i:Nat}{x y os R:List Int}{c a:Int}(s:x[i]?=some a)(h:os++ej b (x.drop i) (y.drop i) c=R) :
  os++[(a+b-(y.drop i).headD 0-c)%b]++ej b (x.drop (i+1)) (y.drop (i+1)) (if a<(y.drop i).headD 0+c then 1 else 0)=R:=by
 have hi:=(List.getElem?_eq_some_iff.1 s).1
 have t:x.drop i=a::x.drop (i+1):=by
  rw[List.drop_eq_getElem_cons hi];congr 1
  exact(List.getElem?_eq_some_iff.1 s).2
 rw[t]at h
 rw[List.append_assoc,←h]
 show os++(_::ej b _ _ _)=os++(_::ej b _ (y.drop i).tail _)
 rw[List.tail_drop]
theorem vZ {b:Nat}{x y o c:Int}(u:0≤x∧x<b)(t:0≤y∧y<b)(z:0≤o∧o<b)(s:0≤c∧c<b):0≤x*y+o+c∧(x*y+o+c) / b<b∧0≤(x*y+o+c) / b∧0≤(x*y+o+c)%b∧(x*y+o+c)%b<b:=by
 have s:(0:Int)<b:=by omega
 have h0:=Int.mul_nonneg u.1 t.1;have u:x*y≤(b-1)*(b-1):=Int.mul_le_mul (by omega) (by omega) t.1 (by omega);have t:((b:Int)-1)*(b-1)=b*b-b-b+1:=by rw[Int.mul_sub,Int.sub_mul];omega
 refine⟨by omega,Int.ediv_lt_of_lt_mul s (by omega),Int.ediv_nonneg (by omega) (by omega),Int.emod_nonneg _ (by omega),Int.emod_lt_of_pos _ s⟩
theorem te {b m:Nat}{r x:Int}(s:0≤r∧r<m)(t:0≤x∧x<b):0≤(r*b+x) / m∧(r*b+x) / m<b∧0≤(r*b+x)%m∧(r*b+x)%m<m:=by
 have h0:=Int.mul_nonneg s.1 (show(0:Int)≤b by omega);have s:(r+1)*b≤m*b:=Int.mul_le_mul_of_nonneg_right (by omega) (by omega);rw[Int.add_mul,Int.one_mul]at s;exact⟨Int.ediv_nonneg (by omega) (by omega),Int.ediv_lt_of_lt_mul (by omega) (by rw[Int.mul_comm (b:Int) m];omega),Int.emod_nonneg _ (by omega),Int.emod_lt_of_pos _ (by omega)⟩
theorem lH {x:List Int}{i:Nat}{a:Int}(s:x[i]?=some a):x.drop i=a::x.drop (i+1):=by
 have hi:=(List.getElem?_eq_some_iff.1 s).1;rw[List.drop_eq_getElem_cons hi];congr 1
 exact(List.getElem?_eq_some_iff.1 s).2
def dq (b m:Nat):List Int→Int
 |[]=>0
 |x::l=>(dq b m l*b+x)%m
def eg (b m:Nat):List Int→List Int
 |[]=>[]
 |x::l=>(dq b m l*b+x) / m::eg b m l
theorem sY (b m:Nat):∀x:List Int,(eg b m x).length=x.length:=by
 intro x;induction x with
 |nil=>rfl
 |cons a l s=>show(eg b m l).length+1=l.length+1;rw[s]
theorem lF {b m:Nat}(hm:0<m):∀x:List Int,0≤dq b m x∧dq b m x<m:=by
 intro x;cases x with
 |nil=>show(0:Int)≤0∧(0:Int)<m;omega
 |cons a l=>exact⟨Int.emod_nonneg _ (by omega),Int.emod_lt_of_pos _ (by omega)⟩
theorem nz {b m:Nat}(hm:0<m):∀x:List Int,aM b x→aM b (eg b m x):=by
 intro x;induction x with
 |nil=>intro _ t s;cases s
 |cons a l t=>
  intro h;have s:=te (lF (b:=b) hm l) h.head;exact aM.cons ⟨s.1,s.2.1⟩ (t h.tail)
theorem sZ {b m:Nat}:∀x:List Int,az b (eg b m x)*m+dq b m x=az b x:=by
 intro x;induction x with
 |nil=>show(0:Int)*m+0=0;rw[Int.zero_mul];rfl
 |cons a l t=>
  show((dq b m l*b+a) / m+b*az b (eg b m l))*m+(dq b m l*b+a)%m=a+b*az b l;have h:=Int.emod_add_mul_ediv (dq b m l*b+a) m;have s:(b:Int)*(az b (eg b m l)*m+dq b m l)=b*az b l:=by rw[t]
  rw[Int.mul_add,Int.mul_comm (b:Int) (dq b m l),←Int.mul_assoc]at s;rw[Int.add_mul,Int.mul_comm ((dq b m l*b+a) / m) m];omega
theorem td {b m v:Nat}(t:2≤b)(hm:0<m):(az b (eg b m (ar b v))).toNat=v / m∧dq b m (ar b v)=((v%m:Nat):Int):=by
 have s:=sZ (b:=b) (m:=m) (ar b v);rw[ff t]at s;have z:=lF (b:=b) hm (ar b v);have D:=js (nz hm _ (ft t v));obtain⟨q,u⟩:∃q:Nat,az b (eg b m (ar b v))=(q:Int):=⟨(az b (eg b m (ar b v))).toNat,by omega⟩;obtain⟨r,t⟩:∃r:Nat,dq b m (ar b v)=(r:Int):=⟨(dq b m (ar b v)).toNat,by omega⟩;rw[u,t]at s;rw[t]at z;rw[u,t,Int.toNat_natCast];have t:q*m+r=v:=by exact_mod_cast s
 have s:r<m:=by omega
 have u:v / m=q:=by
  rw[←t,Nat.mul_comm q m,Nat.mul_add_div hm,Nat.div_eq_of_lt s,Nat.add_zero]
 have z:v%m=r:=by
  rw[←t,Nat.mul_comm q m,Nat.mul_add_mod,Nat.mod_eq_of_lt s]
 rw[u,z];exact⟨rfl,rfl⟩
theorem ju {l:List Int}{i:Nat}{y:Int}(h:i<l.length):(l.set i y).take (i+1)=l.take i++[y]:=by
 rw[m8 (x:=y) (by rw[List.getElem?_set_self h]),List.take_set_of_le (Nat.le_refl i)]
def bF (w:World)(g:Nat)(ps:List Int):Prop:=∃s:Array Value,w.heap[g]?=some (.cells s 3 (0,0))∧∀(i:Nat) (x:Int),ps[i]?=some x→s[i]?=some (Value.int .i64 x)
theorem bF.cell {w:World}{g:Nat}{ps:List Int}(h:bF w g ps){i:Nat}{x:Int}(u:ps[i]?=some x):w.cell? ⟨g,i,none⟩=some (.int .i64 x):=by
 obtain⟨z,s,t⟩:=h;rw[cell_of_row w g i _ _ _ s];simp only[t i x u]
theorem bF.frozen {w:World}{g:Nat}{ps:List Int}(h:bF w g ps)(i:Nat):w.frozen? ⟨g,i,none⟩=false:=by
 obtain⟨t,s,u⟩:=h;exact frozen_of_row w g i _ _ s
theorem bF.lt {w:World}{g:Nat}{ps:List Int}(h:bF w g ps):g<w.heap.size:=by
 obtain⟨t,s,u⟩:=h;exact bu s
theorem bF.keep {G:Nat→Prop}{w s:World}{g:Nat}{ps:List Int}(h:bF w g ps)(E:af G w s)(z:¬G g):bF s g ps:=by
 have D:=h.lt;obtain⟨s,t,u⟩:=h;exact⟨s,(E.block g D z).trans t,u⟩
theorem bF.U {w s:World}{g:Nat}{ps:List Int}(h:bF w g ps)(t:ae w s):bF s g ps:=h.keep (t.upd (fun _=>False)) (fun h=>h)
theorem bF.d' {w:World}{g:Nat}{ps:List Int}(h:bF w g ps):eo w (some ⟨g,0,none⟩) ps:=fun i x s=>⟨g,0,rfl,by rw[iD];exact h.cell s⟩
theorem bF.set {w:World}{g:Nat}{ps:List Int}(h:bF w g ps)(i:Nat)(y:Int)(hi:i<ps.length):bF (w.setCell ⟨g,i,none⟩ (.int .i64 y)) g (ps.set i y):=by
 obtain⟨z,D,u⟩:=h;refine⟨_,Go.heap_setCell_same w g i _ _ (.int .i64 y) D,fun j x s=>?_⟩;rw[ia];by_cases t:i=j
 ·subst t;have E:=u i ps[i] (by simp[hi]);have hs:i<z.size:=(Array.getElem?_eq_some_iff.1 E).1;rw[ai rfl,ai hs];simp[hi]at s;rw[s]
 ·rw[ag t];rw[fV t]at s;exact u j x s
theorem kL {w:World}{lo:Nat}{g:Nat}{n cap:Nat}{ps:List Int}(t:w.ownsRow lo 3 1 (.slice (some ⟨g,0,none⟩) n cap) n (ps.map (Value.int .i64))):bF w g ps∧lo≤g:=by
 obtain⟨J,N⟩:=cU t (k:=g) rfl;rcases t.2 with⟨h0,_⟩|⟨g',t,u,I,z,D,_,_,hs,E⟩
 ·cases h0
 ·cases I;refine⟨⟨u,D,fun i x t=>?_⟩,z⟩;have s:(ps.map (Value.int .i64))[i]?=some (.int .i64 x):=by rw[iB,t];rfl
  rw[←E,ic]at s;split at s
  ·rw[Array.getElem?_toList]at s;exact s
  ·cases s
def qL (lo:Nat)(w:World)(a:Option Addr)(ps:List Int):Prop:=ps≠[]→∃g,a=some ⟨g,0,none⟩∧lo≤g∧bF w g ps
theorem ja:(Tryz.prog.info? 3).map (fun i=>(i.zero,i.size,i.bytes))=some (some (.int .i64 0),1,8):=by kernel_rfl
theorem o7 (w:World)(s:TypeId):(w.alloc (.cells #[] s)).ownsRow w.heap.size s 1 (.slice (some ⟨w.heap.size,0,none⟩) 0 0) 0 []:=
 ⟨rfl,.inr ⟨w.heap.size,0,#[],rfl,aI _,heap_alloc_new w _,aI _,by unfold maxLen;omega,rfl,rfl⟩⟩
theorem sw (a:Option Addr)(cap:Nat)(ps:List Int)(w:World)(h:eo w a ps)(Y:ps.length≤1048576) :
  Calls Tryz.prog 54 #[.slice a ps.length cap] w fun e Z=>∃D O,e=.returned (.slice D ps.length O)∧qL w.heap.size Z D ps∧ae w Z:=by
 cases a with
 |none=>
  have aw:ps=[]:=by
   cases ps with
   |nil=>rfl
   |cons x l=>obtain⟨b,off,T,_⟩:=h 0 x rfl;cases T
  subst aw;clear h Y;rw[List.length_nil];have av:=fun(J:World)=>Lib.run_eql_slice_nil (P:=Tryz.prog) J 22 3 none 0 cap 0 0 Tryz.underlying22;go_enter Tryz.func54,Tryz.ntmps54;go_wp2;go_ret;exact⟨none,0,rfl,fun z=>absurd rfl z,ae.refl _⟩
 |some N=>
  obtain⟨a2,hi,ay,a0,a1⟩:=info_parts ja
  have W:∀j s,(ps.map (Value.int .i64))[j]?=some s→w.cell? (N.add j)=some s:=fun j s E=>by
   rw[iB,Option.map_eq_some_iff]at E;obtain⟨x,ax,rfl⟩:=E;obtain⟨b,off,T,am⟩:=h j x ax;cases T
   have al:(⟨b,off,none⟩:Addr).add j=⟨b,off+j,none⟩:=by
    unfold Addr.add;split
    ·rename_i h0;rw[h0];rfl
    ·rfl
   rw[al];exact am
  obtain⟨t,Q⟩:∃t,t=ps.length:=⟨_,rfl⟩;rw[←Q]at Y ⊢;have ab:=aa W;have V:=aa Q;have ad:0+t≤maxLen:=by unfold maxLen;omega
  clear h W Q;have av:=fun(J:World)=>Lib.run_eql_slice_nil (P:=Tryz.prog) J 22 3 (some N) t cap 0 0 Tryz.underlying22;go_enter Tryz.func54,Tryz.ntmps54
  go_wp2_with (first
   |(at_builtin;refine qC rfl _ _ 22 rfl w.heap.size 3 a2 (.int .i64 0) 1 8 Tryz.underlying22 hi ay a0 a1 rfl (by decide) (.slice (some ⟨w.heap.size,0,none⟩) 0 0) 0 [] rfl (o7 w 3) N t cap (ps.map (Value.int .i64)) rfl (by rw[j9,←V.out,Nat.mul_one]) (fun j s E=>((ae.refl w).alloc _).cell (ab.out j s E)) (fun s I=>by rw[List.mem_map]at I;obtain⟨x,_,rfl⟩:=I;rfl) ad (by omega) (by simp) ?_;intro Q a5 U u J)
   |fail)
  obtain⟨D,O,rfl,ah⟩:=gi U;go_wp2_with fail;go_ret;refine⟨D,O,by simp,fun z=>?_,?_⟩
  ·obtain⟨g,rfl⟩:=ah (by rw[iD,V.out];intro e;exact z (List.length_eq_zero_iff.1 e));rw[List.nil_append]at U;obtain⟨a3,a4⟩:=kL U;exact⟨g,rfl,a4,a3⟩
  ·have I:af (fun k=>k=w.heap.size) (w.alloc (.cells #[] 3)) a5:=⟨u.os,u.tape,u.output,u.size,fun k X z=>u.block k X (fun e=>by simp[Value.ownBlock]at e;exact z e)⟩;exact((((ae.refl w).alloc (.cells #[] 3)).upd _).bd I).U (fun k X e=>by omega)
def lj (ps s:List Int):Prop:=s.length=ps.length∧∀(i:Nat) (x:Int),ps[i]?=some x→s[x.toNat]?=some (i:Int)
theorem pF {w:World}{s n:Nat}(h:w.ownsRow s 3 1 (.slice (some ⟨s,0,none⟩) n n) n (madeCells (Value.int .i64 0).cells (n*1)).toList):bF w s (List.replicate n 0):=by
 have e:(madeCells (Value.int .i64 0).cells (n*1)).toList=(List.replicate n (0:Int)).map (Value.int .i64):=by
  rw[List.map_replicate,Nat.mul_one];simp[madeCells,Value.cells,Nat.mod_one];rw[List.map_const',List.length_range]
 rw[e]at h;exact(kL h).1
theorem ux (a:Option Addr)(cap:Nat)(ps:List Int)(w:World)(h:eo w a ps)(W:ps.length≤1048576) :
  Calls Tryz.prog 82 #[.slice a ps.length cap] w fun e ah=>ae w ah ∧
   if dG ps=true then ∃s,e=.returned (.tuple #[.slice (some ⟨w.heap.size,0,none⟩) ps.length ps.length,.bool true])∧bF ah w.heap.size s∧lj ps s
   else e=.returned (.tuple #[.slice none 0 0,.bool false]):=by
 have E:=fun ah (a4:ae w ah)=>xp a cap ps ah (h.U a4) W
 obtain⟨t,z⟩:∃t,t=ps.length:=⟨_,rfl⟩
 cases O:dG ps with
 |false=>
  simp only[Bool.false_eq_true,if_false];rw[O,←z]at E;rw[←z];have V:=aa E;clear E h W O z;go_enter Tryz.func82,Tryz.ntmps82;go_wp2_with (first|(go_at_call 142;refine(V.out _ kp).mono ?_;rintro e w1 ⟨rfl,rfl⟩)|fail)
  go_ret2;exact⟨ae.refl _,rfl⟩
 |true=>
  simp only[if_true];obtain⟨ah,X,av⟩:=gQ.1 O;rw[O,←z]at E;rw[←z]at W ah X ⊢;have V:=aa E;have U:=aa z;have H:=aa h;have ab:=aa X;have a1:=aa av;obtain⟨a8,a5,a9,a',ba⟩:=info_parts ja;clear E h O z X av;go_enter Tryz.func82,Tryz.ntmps82
  go_wp2_with (first
   |(go_at_call 142;refine(V.out _ kp).mono ?_;rintro e w1 ⟨rfl,rfl⟩)
   |(at_make;refine wpList_make_full _ rfl _ _ 22 rfl w.heap.size 3 a8 (.int .i64 0) 1 Tryz.underlying22 a5 a9 a' .i64 .i64 (t:Int) (t:Int) t rfl rfl rfl rfl (by rw[ba];omega) (by unfold maxLen;omega) (by simp) ?_;intro w1 aw I)
   |fail)
  have Z:=aa (pF aw);have am:ae w w1:=⟨I.os,I.tape,I.output,I.size,fun i hi=>I.block i hi (by simp)⟩;have a0:=aa am;have bb:=Z.out.lt;clear aw I am;go_loopg [5,6,15] t (fun gk z z z wr=>∃(d:Nat) (s:List Int),d+gk=t∧z=.int .i64 (d:Int)∧s.length=t∧bF wr w.heap.size s∧(∀i x,i<d→ps[i]?=some x→s[x.toNat]?=some (i:Int))∧af (fun j=>j=w.heap.size) w1 wr)
  case atStart=>exact⟨0,_,by omega,rfl,by simp,Z.out,fun i x hi=>by omega,af.refl _ _⟩
  case round=>
   obtain⟨d,s,bc,rfl,O,E,I,z⟩:=hrel;have Q:=aa E;have N:=aa O;have Y:=aa I;have ay:=aa z;have ax:ae w wr:=a0.out.new z (fun k V=>by omega);clear E O I z;by_cases a6:d<t
   ·obtain⟨x,D⟩:∃b,ps[d]?=some b:=⟨_,aQ (by rw[←U.out];exact a6)⟩;obtain⟨b,off,rfl,al⟩:=H.out d x D;have z:=ax.cell al;obtain⟨z,E⟩:=ab.out x (dy D);have ad:=aa D;obtain⟨u,rfl⟩:∃u:Nat,x=(u:Int):=⟨x.toNat,by omega⟩;obtain⟨y,z⟩:∃b,s[u]?=some b:=⟨_,aQ (by rw[N.out];omega)⟩;have E:=Q.out.cell z;have E:=Q.out.frozen u;clear al D z;go_wp2_with fail;go_roundg (gk-1)
    case rel=>
     refine⟨d+1,s.set u (d:Int),by omega,by simp,by rw[de,N.out],?_,fun i T hi J=>?_,?_⟩;·exact Q.out.set u (d:Int) (by rw[N.out];omega)
     ·by_cases hid:i=d
      ·subst hid;rw[ad.out]at J;cases J;rw[bG,jA (by rw[N.out];omega)]
      ·have a7:T.toNat≠u:=fun e=>by
        have z:=(ab.out T (dy J)).1;have z:T=(u:Int):=(by omega);rw[z]at J;obtain⟨bb,a3⟩:=List.getElem?_eq_some_iff.1 J;obtain⟨z,u⟩:=List.getElem?_eq_some_iff.1 ad.out;exact hid (List.getElem_inj a1.out |>.1 (a3.trans u.symm))
       rw[fV (fun e=>a7 e.symm)];exact Y.out i T (by omega) J
     ·exact ay.out.setCell (.inl rfl) _
    case measure=>omega
   ·have u:d=t:=(by omega);have t:lj ps s:=⟨by rw[N.out,U.out],fun i x D=>Y.out i x (by have:=(List.getElem?_eq_some_iff.1 D).1;have:=U.out;omega) D⟩;have a2:=aa t;clear u t;go_wp2_with fail;go_ret2;exact⟨ax,s,rfl,Q.out,a2.out⟩
structure dm (F:Nat→Prop)(w:World)(ob:Nat)(ps:List Int):Prop where
 h9:∃va vc lg lc qs,w.heap[ob]?=some (.cells #[.slice va ps.length vc,.slice (some ⟨lg,0,none⟩) ps.length lc] 117 (0,0))∧lj ps qs ∧
  (ps≠[]→∃vg,va=some ⟨vg,0,none⟩∧bF w vg ps∧F vg∧vg≠lg)∧bF w lg qs∧F lg
 own:F ob
 lt:∀k,F k→k<w.heap.size
 perm:dG ps=true
theorem dm.keep {F G:Nat→Prop}{w u:World}{ob:Nat}{ps:List Int}(h:dm F w ob ps)(s:af G w u)(t:∀k,F k→¬G k):dm F u ob ps:=by
 obtain⟨⟨W,X,U,T,V,z,J,N,O,D⟩,u,E,I⟩:=h;refine⟨⟨W,X,U,T,V,(s.block ob (bu z) (t _ u)).trans z,J,fun Q=>?_,O.keep s (t _ D),D⟩,u,fun k z=>dz (E k z) s.size,I⟩;obtain⟨I,z,D,u,E⟩:=N Q;exact⟨I,z,D.keep s (t _ u),u,E⟩
theorem dm.U {F:Nat→Prop}{w s:World}{ob:Nat}{ps:List Int}(h:dm F w ob ps)(t:ae w s):dm F s ob ps:=h.keep (t.upd (fun _=>False)) (fun _ _ h=>h)
theorem wV (a:Option Addr)(cap:Nat)(ps:List Int)(w:World)(h:eo w a ps)(N:ps.length≤1048576) :
  Calls Tryz.prog 35 #[.slice a ps.length cap] w fun e z=>ae w z ∧
   if dG ps=true then ∃ob F,e=.returned (.tuple #[.pointer (some ⟨ob,0,none⟩),.int .u8 0])∧dm F z ob ps∧(∀k,F k→w.heap.size≤k)
   else e=.returned (.tuple #[.pointer none,.int .u8 1]):=by
 have u:=fun z (Q:ae w z)=>ux a cap ps z (h.U Q) N
 have I:=fun z (Q:ae w z)=>sw a cap ps z (h.U Q) N
 obtain⟨t,s⟩:∃t,t=ps.length:=⟨_,rfl⟩
 cases D:dG ps with
 |false=>
  simp only[Bool.false_eq_true,if_false];simp only[D,Bool.false_eq_true,if_false,←s]at u;rw[←s];have O:=aa u;clear u h N D s I;go_enter Tryz.func35,Tryz.ntmps35;go_wp2_with (first|(go_at_call 82;refine(O.out _ kp).mono ?_;rintro e w1 ⟨J,rfl⟩)|fail)
  go_ret2;exact⟨J,rfl⟩
 |true=>
  simp only[if_true];simp only[D,if_true,←s]at u;rw[←s]at I ⊢;have O:=aa u;have ab:=aa I;have Z:=aa D;have ad:=aa s;clear u h N D s I;go_enter Tryz.func35,Tryz.ntmps35;go_wp2_with (first|(go_at_call 82;refine(O.out _ kp).mono ?_;rintro e w1 ⟨V,av,rfl,W,al⟩)|fail)
  have s:=W.lt;refine(ab.out _ V).mono ?_;rintro e E ⟨X,Y,rfl,am,T⟩;go_wp2_with fail;go_ret2;have U:ae E (E.alloc (.cells #[.slice X t Y,.slice (some ⟨w.heap.size,0,none⟩) t t] 117)):=(ae.refl _).alloc _;have s:=T.size;refine⟨(V.trans T).trans U,E.heap.size,fun k=>w.heap.size≤k∧k≤E.heap.size,rfl,⟨⟨X,Y,w.heap.size,t,av,?_,al,fun ah=>?_,(W.U T).U U,by omega⟩,by omega,fun k J=>by simp;omega,Z.out⟩,fun k J=>J.1⟩
  ·rw[←ad.out];exact heap_alloc_new E _
  ·obtain⟨u,t,z,s⟩:=am ah;have:=s.lt;exact⟨u,t,s.U U,by omega,by omega⟩
theorem dm.cells {F:Nat→Prop}{w:World}{ob:Nat}{ps:List Int}(h:dm F w ob ps):∃s D z u,w.cell? ⟨ob,0,none⟩=some (.slice s ps.length D)∧w.cell? ⟨ob,1,none⟩=some (.slice (some ⟨z,0,none⟩) ps.length u)∧eo w s ps:=by
 obtain⟨⟨s,D,z,u,U,E,O,I,Q,T⟩,_⟩:=h;refine⟨s,D,z,u,by rw[cell_of_row w ob 0 _ _ _ E];rfl,by rw[cell_of_row w ob 1 _ _ _ E];rfl,fun i x t=>?_⟩;obtain⟨s,J,N,_⟩:=I (fun e=>by rw[e]at t;simp at t);rw[J];exact N.d' i x t
theorem dm.le {F:Nat→Prop}{w:World}{ob:Nat}{ps:List Int}(h:dm F w ob ps):ps.length≤16:=(gQ.1 h.perm).1
theorem o5 {F:Nat→Prop}{w:World}{ob:Nat}{ps:List Int}(h:dm F w ob ps) :
  Calls Tryz.prog 99 #[.pointer (some ⟨ob,0,none⟩)] w fun e D=>e=.returned (.int .i64 (ps.length:Int))∧w=D:=by
 obtain⟨I,J,E,D,u,s,_⟩:=h.cells
 have z:=h.le
 obtain⟨n,t⟩:∃n,n=ps.length:=⟨_,rfl⟩
 rw[←t]at u s z ⊢
 clear h s t
 go_enter Tryz.func99,Tryz.ntmps99
 go_wp2
 go_ret
 exact⟨rfl,rfl⟩
def ei (n:Nat):List Int:=(List.range n).map (fun i:Nat=>(i:Int))
theorem jm (n:Nat):(ei n).length=n:=by unfold ei;simp
theorem vJ {n:Nat}{x:Int}:x∈ei n↔0≤x∧x<(n:Int):=by
 unfold ei;rw[List.mem_map];constructor
 ·rintro⟨a,s,rfl⟩;rw[List.mem_range]at s;omega
 ·intro h;exact⟨x.toNat,by rw[List.mem_range];omega,by omega⟩
theorem wC (n:Nat):(ei n).Nodup:=by
 unfold ei;exact List.Pairwise.map _ (fun a b (h:a≠b) e=>h (by omega)) List.nodup_range
theorem uw (a b:Option Addr)(cap J:Nat)(ps t:List Int)(w:World)(E:eo w a ps)(I:eo w b t)(ad:ps.length≤1048576)(ah:t.length≤1048576) :
  Calls Tryz.prog 40 #[.slice a ps.length cap,.slice b t.length J] w fun e ax=>e=.returned (.bool (decide (ps=t)))∧ae w ax:=by
 by_cases z:ps.length=t.length
 ·obtain⟨s,u⟩:∃s,s=ps.length:=⟨_,rfl⟩;have J:s=t.length:=u.trans z;rw[←J,←u];rw[←u]at ad;have am:=aa E;have av:=aa I;have V:=aa u;have U:=aa J;clear E I u J z ah;go_enter Tryz.func40,Tryz.ntmps40;go_wp2;go_loopg [5] s (fun gk J wr=>∃d:Nat,J=.int .i64 (d:Int)∧d+gk=s∧(∀i,i<d→ps[i]?=t[i]?)∧ae w wr)
  case atStart=>exact⟨0,rfl,by omega,fun i hi=>by omega,kp⟩
  case round=>
   obtain⟨d,rfl,ax,J,O⟩:=hrel;have W:=aa J;clear J;by_cases al:d<s
   ·obtain⟨x,Q⟩:∃b,ps[d]?=some b:=⟨_,aQ (by rw[←V.out];exact al)⟩;obtain⟨y,T⟩:∃b,t[d]?=some b:=⟨_,aQ (by rw[←U.out];exact al)⟩;obtain⟨ay,a1,rfl,Z⟩:=am.out d x Q;obtain⟨a0,a2,rfl,J⟩:=av.out d y T;replace Z:=O.cell Z;replace J:=O.cell J;have X:=aa Q;have Y:=aa T;have J:(0:Int)≤(d:Int):=(by omega);have J:(d:Int)<(s:Int):=(by omega);clear Q T;by_cases N:x=y
    ·subst N;go_wp2_with fail;go_quiet (fail);go_wp2;go_roundg (gk-1)
     case rel=>
      refine⟨d+1,by simp,by omega,fun i hi=>?_,kp⟩;by_cases e:i=d;·subst e;rw[X.out,Y.out]
      ·exact W.out i (by omega)
     case measure=>omega
    ·have J:(x != y)=true:=(by simp[N]);have D:Hid (¬ps=t):=aa (fun e=>by have:=X.out;rw[e,Y.out]at this;exact N (Option.some.inj this).symm);go_wp2_with fail;go_quiet (fail);go_wp2;go_ret;exact⟨by rw[bQ D.out];rfl,kp⟩
   ·have N:d=s:=by omega
    have J:ps=t:=by
     apply List.ext_getElem?;intro i;by_cases hi:i<d;·exact W.out i hi
     ·rw[eT (by rw[←V.out];omega),eT (by rw[←U.out];omega)]
    have aw:=aa J;clear N J;go_wp2_with fail;go_ret;exact⟨by rw[bM aw.out];rfl,O⟩
 ·have D:decide (ps=t)=false:=bQ (fun e=>z (by rw[e]));obtain⟨s,u⟩:∃s,s=ps.length:=⟨_,rfl⟩;obtain⟨K,ab⟩:∃K,K=t.length:=⟨_,rfl⟩;rw[D];rw[←u,←ab]at z ⊢;have t:((s:Int) !=(K:Int))=true:=by simp;omega
  clear E I ad ah u ab D z;go_enter Tryz.func40,Tryz.ntmps40;go_wp2;go_ret;exact⟨rfl,kp⟩
end Go.Proofs.YtafkamlhimkbmaaGreat
