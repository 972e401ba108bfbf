/-
  meter.Profile over the state.
-/
import Derived.Test.YtafkamlhimkbmaaGreatPMOnesW
namespace Go.Proofs.YtafkamlhimkbmaaGreat
set_option maxRecDepth 1000000
set_option maxHeartbeats 8000000
set_option linter.unusedSimpArgs false
set_option linter.unusedVariables false
open Go.RowKit
def iv (M:St)(id:Int):Nat:=(aS (look M.cs id)).top.toNat
def jD (l:List Int)(k:Nat):List Int:=l.set k (l.getD k 0+1)
def dS (M:St)(n:Nat)(ids:List Int):Nat→List Int
 |0=>List.replicate n 0
 |d+1=>match ids[d]? with
  |some id=>jD (dS M n ids d) (iv M id)
  |none=>dS M n ids d
theorem jR (M:St)(n:Nat)(ids:List Int):∀d,(dS M n ids d).length=n:=by
 intro d;induction d with
 |zero=>exact nh
 |succ d s=>
  unfold dS;split
  ·unfold jD;rw[de,s]
  ·exact s
theorem pk (M:St)(n:Nat)(ids:List Int):∀d,∀x∈dS M n ids d,0≤x∧x≤(d:Int):=by
 intro d;induction d with
 |zero=>
  intro x s;have:=List.eq_of_mem_replicate (show x∈List.replicate n (0:Int)from s);subst this;exact⟨Int.le_refl _,Int.le_refl _⟩
 |succ d t=>
  intro x s;unfold dS at s;split at s
  ·unfold jD at s;rcases List.mem_or_eq_of_mem_set s with h|h
   ·have:=t x h;omega
   ·rw[h,fU];cases u:(dS M n ids d)[iv M _]? with
    |none=>simp only[Option.getD_none];omega
    |some y=>
     have:=t y (dy u);simp only[Option.getD_some];omega
  ·have:=t x s;omega
theorem vV {F:Nat→Prop}{w:World}{sb:Nat}{M:St}(h:aq F w sb M)(f:Int)(v:Edge)(Y:v.ok)(n:Nat)(X:M.n=(n:Int))(ba:n≤8)(hm:cq M f v 0=0) :
  Calls Tryz.prog 31 #[.pointer (some ⟨sb,0,none⟩),.int .u8 f,.agg #[.int .u8 v.tag,.int .u32 v.to]] w fun e T=>(∃g,e=.returned (.tuple #[.slice (some ⟨g,0,none⟩) n n,.int .u8 0])∧w.heap.size≤g∧bF T g (dS M n (bV M.cs [v.to]) (bV M.cs [v.to]).length))∧ae w T:=by
 obtain⟨cf,hi,cc,cd,ce⟩:=info_parts ja
 obtain⟨ids,N⟩:∃ids,ids=bV M.cs [v.to]:=⟨_,rfl⟩
 have b7:=pq h.wf h.cp [v.to]
 have b4:=aa (fun(t:World) (u:ae w t) (b:Nat) (cap:Nat) (ba:iV t (some ⟨b,0,none⟩) 1 [v])=>by
  have q:=pw (h.U u) (some ⟨b,0,none⟩) 1 cap [v] ba (by omega);rw[show List.map Edge.to [v]=[v.to]from rfl,←N]at q
  exact q)
 have ba:=fun(d:Nat) (id:Int) (E:ids[d]?=some id)=>xZ h.wf (d:=d) (id:=id) (es:=[v.to]) (by rw[←N];exact E)
 have b5:=aa ba
 have am:=aa (fun(t:World) (u:ae w t)=>oL (h.U u) f v Y)
 rw[hm]at am
 have ax:=aa (fun(t:World) (u:ae w t)=>cX (h.U u))
 rw[X]at ax
 have bt:=aa (fun(t:World) (u:ae w t) (id:Int) (hid:id≤4294967295)=>fO (h.U u) id hid)
 have bn:=aa (fun id r (a3:look M.cs id=some r)=>h.b7 a3)
 have b0:=aa X
 have bi:=aa h.cp
 rw[←N]at b7 ⊢
 clear h hm N X ba
 go_enter Tryz.func31,Tryz.ntmps31
 go_wp2_with (first
  |(go_at_call 77;refine(am.out _ kp).mono ?_;rintro e w1 ⟨rfl,a4⟩;have ad:w1.cell? ⟨w.heap.size,0,none⟩=some (.int .u8 v.tag):=a4.cell (by simp);have ah:w1.cell? ⟨w.heap.size,1,none⟩=some (.int .u32 v.to):=a4.cell (by simp);have Z:ae w w1:=kp)
  |(go_at_call 48;refine(ax.out _ Z).mono ?_;rintro e' cl ⟨rfl,rfl⟩)
  |(at_make;refine wpList_make_full _ rfl _ _ 22 rfl w1.heap.size 3 cf (.int .i64 0) 1 Tryz.underlying22 hi cc cd .i64 .i64 _ _ n rfl rfl (by simp) (by simp) (by rw[ce];omega) (by unfold maxLen;omega) (by simp) ?_;intro U a' z;have I:ae w1 U:=⟨z.os,z.tape,z.output,z.size,fun i hi=>z.block i hi (by simp)⟩;have V:=aa (pG a');have ad:=I.cell ad;have ah:=I.cell ah;clear a' z)
  |fail)
 have t:=I.size
 have ch:ae w U:=Z.trans I
 have t:w1.heap.size<U.heap.size:=V.out.lt
 refine(b4.out _ kp _ _ (oq Y (by simp[go_sem]) (by simp[go_sem]))).mono ?_
 rintro e ab ⟨cj,rfl,ca,O,a9⟩
 obtain⟨a,cap,rfl,ay⟩:=ca
 have t:=O.size
 rw[ak]at t
 have a0:∀(i:Nat) (x:Int),ids[i]?=some x→∃g,a=some ⟨g,0,none⟩∧¬(g=w1.heap.size)∧ab.cell? ⟨g,i,none⟩=some (.int .u32 x):=fun i x D=>by
  obtain⟨g,rfl,b6⟩:=ay i x D;have:=a9 g rfl;rw[ak]at this;exact⟨g,rfl,by omega,b6⟩
 have b3:=aa ((V.out.U ((ae.refl U).alloc (.cells #[.int .u8 v.tag,.int .u32 v.to] 52))).U O)
 have be:=aa a0
 have bw:=aa (show ae w ab from(ch.alloc _).trans O)
 have cb:=Z.size
 clear ay a9 O a0 ad ah Y I V
 go_wp2_with fail
 go_loopg [11,12,13,29] ids.length (fun gk t t t t wr=>∃d:Nat,d+gk=ids.length∧t=.int .i64 (d:Int)∧bF wr w1.heap.size (dS M n ids d)∧af (fun k=>k=w1.heap.size) ab wr)
 case atStart=>exact⟨0,by omega,rfl,b3.out,af.refl _ _⟩
 case round=>
  obtain⟨d,E,rfl,t,u⟩:=hrel;have av:=aa t;have aw:=aa u;have al:=aa E;have a6:ae w wr:=bw.out.new u (fun k a3=>by omega);have z:=t.lt;clear t u;by_cases b8:d<ids.length
  ·obtain⟨id,hid⟩:∃id,ids[d]?=some id:=⟨_,aQ b8⟩;obtain⟨g,rfl,t,a1⟩:=be.out d id hid;have u:=aw.out.cellAt (b:=g) (o:=d) (v:=.int .u32 id) t a1;obtain⟨x,D,W,t,u⟩:=b5.out d id hid;have a8:=bn.out id x D;obtain⟨s,bb⟩:∃s:Nat,(s:Int)=x.top:=⟨x.top.toNat,by have:=a8.top.1;omega⟩
   have bc:s<n:=by
    have:=W.tb;have:=W.bn;have:=b0.out;omega
   have bd:iv M id=s:=(by unfold iv;rw[D];show x.top.toNat=s;omega);obtain⟨o,Q⟩:∃o,(dS M n ids d)[s]?=some o:=⟨_,aQ (by rw[jR];exact bc)⟩;have b9:=pk M n ids d o (dy Q)
   have a7:dS M n ids (d+1)=(dS M n ids d).set s (o+1):=by
    conv=>lhs;unfold dS
    rw[hid];simp only[];unfold jD;rw[bd,fU,Q];rfl
   have b1:=aa a7;have b2:=aa Q
   have a2:Calls Tryz.prog 78 #[.pointer (some ⟨sb,0,none⟩),.int .u32 id] wr fun e T=>e=.returned (.tuple #[.agg #[.int .u8 x.ad,.int .u8 (s:Int),.int .u8 x.J,.int .u8 x.lo.tag,.int .u32 x.lo.to,.int .u8 x.hi.tag,.int .u32 x.hi.to],.bool true])∧ae wr T:=by
    have q:=bt.out wr a6 id (by have:=bi.out;omega);rw[D]at q;rw[bb];exact q
   have bv:=aa a2;have ci:(d:Int)<(ids.length:Int):=(by omega);have t:(s:Int)<(n:Int):=(by omega);obtain⟨t,u⟩:=b9;clear a2 Q a7 bd a8 W D hid a1 bb E
   go_wp2_with (first
    |(go_at_call 78;refine bv.out.mono ?_;rintro e' cn ⟨rfl,a5⟩;have J:=aa (av.out.U a5);have u:=J.out.cell b2.out;have t:=J.out.frozen s;have z:=J.out.lt)
    |fail)
   go_roundg (gk-1)
   case rel=>
    refine⟨d+1,by have:=al.out;omega,congrArg (Value.int .i64) (by omega),?_,(af.setCell (af.bd aw.out (a5.upd _)) (Or.inl rfl) _).alloc _⟩;rw[b1.out];exact(J.out.set s (o+1) (by rw[jR];exact bc)).U ((ae.refl _).alloc _)
   case measure=>have:=al.out;omega
  ·have s:d=ids.length:=(by omega);have ci:¬(d:Int)<(ids.length:Int):=(by omega);have bh:=aa s;clear s E;go_wp2_with fail;go_ret2;exact⟨⟨w1.heap.size,rfl,cb,by rw[←bh.out];exact av.out⟩,a6⟩
theorem pY {l:List Int}:∀{i:Nat} {x:Int},l[i]?=some x→∀y,(l.set i y).sum=l.sum-x+y:=by
 induction l with
 |nil=>intro i x h;simp at h
 |cons a t s=>
  intro i x h y;cases i with
  |zero=>
   simp at h;subst h;simp only[List.set_cons_zero,List.sum_cons];omega
  |succ i=>
   have:=s (i:=i) (x:=x) (by simpa using h) y;simp only[List.set_cons_succ,List.sum_cons,this];omega
theorem pZ (n:Nat):(List.replicate n (0:Int)).sum=0:=by
 induction n with
 |zero=>rfl
 |succ n s=>rw[List.replicate_succ,List.sum_cons,s];rfl
theorem wM (n:Nat)(ts:List Bool):∀y,(cP n ts y).sum=(bU ts y:Int):=by
 intro y;induction y with
 |zero=>exact pZ (n+1)
 |succ y u=>
  show(if ts[y]?=some true then(cP n ts y).set (dc n y) ((cP n ts y).getD (dc n y) 0+1)else cP n ts y).sum=((bU ts y+(if ts[y]?=some true then 1 else 0):Nat):Int);by_cases s:ts[y]?=some true
  ·rw[ai s,ai s];have t:dc n y<(cP n ts y).length:=(by rw[jn];have:=mv n y;omega);rw[pY (aQ t),fU,aQ t,u];simp only[Option.getD_some];omega
  ·rw[ag s,ag s,u];omega
theorem xA (M:St)(n:Nat)(ids:List Int)(u:∀id∈ids,iv M id<n):∀d,d≤ids.length→(dS M n ids d).sum=(d:Int):=by
 intro d;induction d with
 |zero=>intro _;exact pZ n
 |succ d z=>
  intro t;have hid:ids[d]?=some (ids[d]'(by omega)):=aQ (by omega);have t:=u _ (dy hid);have s:iv M (ids[d]'(by omega))<(dS M n ids d).length:=by rw[jR];exact t
  conv=>lhs;unfold dS
  rw[hid];simp only[];unfold jD;rw[pY (aQ s),fU,aQ s,z (by omega)];simp only[Option.getD_some];omega
theorem zm {l:List Int}{i:Nat}{x:Int}(h:l[i]?=some x):(l.take (i+1)).sum=(l.take i).sum+x:=by
 rw[List.take_add_one,h];simp
theorem zl {l:List Int}{K:Nat}(h:∀x∈l,0≤x∧x≤(K:Int)):0≤l.sum∧l.sum≤(l.length*K:Nat):=by
 induction l with
 |nil=>simp
 |cons a u t=>
  have u:=h a (by simp);have u:=t (fun x s=>h x (by simp[s]));rw[List.sum_cons,eN,Nat.succ_mul];omega
theorem pX (a:Option Addr)(cap K:Nat)(l:List Int)(w:World)(O:eo w a l)(ad:l.length≤1000)(Z:K≤100000000)(E:∀x∈l,0≤x∧x≤(K:Int)) :
  Calls Tryz.prog 33 #[.slice a l.length cap] w fun e Y=>e=.returned (.int .i64 l.sum)∧ae w Y:=by
 have Q:∀i,0≤(l.take i).sum∧(l.take i).sum≤100000000000:=fun i=>by
  have q:=zl (l:=l.take i) (K:=K) (fun x t=>E x (List.mem_of_mem_take t));have Y:(l.take i).length≤1000:=by rw[gG];omega
  have aw:(l.take i).length*K≤1000*100000000:=qU Y Z;omega
 have V:=aa Q
 have U:=aa O
 have W:=aa E
 obtain⟨s,u⟩:∃s,s=l.length:=⟨_,rfl⟩
 rw[←u]at ad ⊢
 have J:=aa u
 clear Q O E u
 go_enter Tryz.func33,Tryz.ntmps33
 go_wp2_with fail
 go_loopg [3,4] s (fun gk u E wr=>∃d:Nat,E=.int .i64 (d:Int)∧d+gk=s∧u=.int .i64 ((l.take d).sum)∧ae w wr)
 case atStart=>exact⟨0,rfl,by omega,by simp,ae.refl _⟩
 case round=>
  obtain⟨d,rfl,D,rfl,ab⟩:=hrel;have I:=aa D;obtain⟨al,am⟩:=V.out d;obtain⟨S,hS⟩:∃S,S=(l.take d).sum:=⟨_,rfl⟩;rw[←hS]at al am ⊢;have N:=aa hS;clear hS;by_cases ah:d<s
  ·obtain⟨x,t⟩:∃x,l[d]?=some x:=⟨_,aQ (by rw[←J.out];exact ah)⟩;obtain⟨b,off,rfl,z⟩:=U.out d x t;have z:=ab.cell z;obtain⟨u,E⟩:=W.out x (dy t);have u:=aJ z;have av:(d:Int)<(s:Int):=(by omega);have u:S+x=(l.take (d+1)).sum:=(by rw[N.out,zm t]);have X:=aa u;clear t u D;go_wp2_with fail;go_roundg (gk-1)
   case rel=>exact⟨d+1,congrArg (Value.int .i64) (by omega),by have:=I.out;omega,congrArg (Value.int .i64) X.out,kp⟩
   case measure=>have:=I.out;omega
  ·have av:¬(d:Int)<(s:Int):=(by omega);have s:S=l.sum:=(by rw[N.out,fm (by rw[←J.out];omega)]);have T:=aa s;clear s D;go_wp2_with fail;go_ret;exact⟨by rw[←T.out];rfl,kp⟩
end Go.Proofs.YtafkamlhimkbmaaGreat
