/-
  Plainly: assignments under an order of the variables; what a step makes of them.
-/
import Derived.Test.YtafkamlhimkbmaaGreatPConvW
import Derived.Test.YtafkamlhimkbmaaGreatPSwapP
namespace Go.Proofs.YtafkamlhimkbmaaGreat
set_option maxRecDepth 1000000
set_option maxHeartbeats 8000000
set_option linter.unusedSimpArgs false
set_option linter.unusedVariables false

def vb (j:Nat)(v:Int):Nat:=if ao (j:Int) v=true then 1 else 0

theorem jf (j:Nat)(v:Int):vb j v≤1:=by unfold vb;split<;>decide

def eh (j:Nat):List Int→Nat
 |[]=>0
 |v::ps=>vb j v+2*eh j ps

def aT (j:Nat):List Int→Nat
 |[]=>0
 |v::ps=>vb j v*2 ^ ps.length+aT j ps

theorem gK (j:Nat):∀ps:List Int,aT j ps<2 ^ ps.length:=by
 intro ps;induction ps with
 |nil=>exact Nat.one_pos
 |cons v ps q=>
  have:=jf j v;have q:2 ^ (v::ps).length=2 ^ ps.length*2:=by rw[List.length_cons,Nat.pow_succ]
  show vb j v*2 ^ ps.length+aT j ps<_;rw[q];rcases Nat.le_one_iff_eq_zero_or_eq_one.1 this with h|h;·rw[h];omega
  ·rw[h];omega

theorem uV (j:Nat):∀(ps:List Int) (v:Int),aT j (ps++[v])=2*aT j ps+vb j v:=by
 intro ps;induction ps with
 |nil=>intro v;show vb j v*2 ^ 0+0=2*0+vb j v;omega
 |cons a ps q=>
  intro v;show vb j a*2 ^ (ps++[v]).length+aT j (ps++[v])=2*(vb j a*2 ^ ps.length+aT j ps)+vb j v;rw[q,List.length_append];show vb j a*2 ^ (ps.length+1)+_=_;rw[Nat.pow_succ,←Nat.mul_assoc];omega

theorem zL (j:Nat):∀(ps:List Int) (m:Nat),rv (aT j ps) ps.length m=2 ^ m*(eh j ps:Int):=by
 intro ps;induction ps with
 |nil=>intro m;show(0:Int)=2 ^ m*((0:Nat):Int);simp
 |cons v ps A=>
  intro m;have q:=gK j ps;have t:0<2 ^ ps.length:=Nat.pow_pos (by decide);show(if(vb j v*2 ^ ps.length+aT j ps) / 2 ^ ps.length%2=1 then(2:Int) ^ m else 0)+rv ((vb j v*2 ^ ps.length+aT j ps)%2 ^ ps.length) ps.length (m+1)=2 ^ m*((vb j v+2*eh j ps:Nat):Int)
  have s:(vb j v*2 ^ ps.length+aT j ps) / 2 ^ ps.length=vb j v:=by
   rw[Nat.mul_comm,Nat.mul_add_div t,Nat.div_eq_of_lt q,Nat.add_zero]
  have t:(vb j v*2 ^ ps.length+aT j ps)%2 ^ ps.length=aT j ps:=by
   rw[Nat.mul_comm,Nat.mul_add_mod,Nat.mod_eq_of_lt q]
  rw[s,t,A];have z:=jf j v;rw[Int.pow_succ];rcases Nat.le_one_iff_eq_zero_or_eq_one.1 z with h|h
  ·rw[h,if_neg (by decide)];push_cast;rw[Int.mul_assoc,Int.zero_add,Int.zero_add]
  ·rw[h,if_pos (by decide)];push_cast;rw[Int.mul_assoc,Int.mul_add];omega

theorem jm (y j:Nat):ao (y:Int) (j:Int)=y.testBit j:=by
 rw[tA,Nat.testBit_eq_decide_div_mod_eq]

theorem rW (j:Nat):∀(ps:List Int) (q:Nat),(eh j ps).testBit q=match ps[q]? with|some v=>ao (j:Int) v|none=>false:=by
 intro ps;induction ps with
 |nil=>intro q;show(0:Nat).testBit q=_;simp
 |cons v ps s=>
  intro q;show(vb j v+2*eh j ps).testBit q=_;cases q with
  |zero=>
   rw[Nat.testBit_zero];show decide ((vb j v+2*eh j ps)%2=1)=ao (j:Int) v;unfold vb;cases ao (j:Int) v with
   |true=>rw[if_pos rfl];exact decide_eq_true (by omega)
   |false=>rw[if_neg (by simp)];exact decide_eq_false (by omega)
  |succ q=>
   rw[Nat.testBit_succ];have e:(vb j v+2*eh j ps) / 2=eh j ps:=(by have:=jf j v;omega);rw[e,s];rfl

theorem AV {ps:List Int}{i:Nat}(h:i+1<ps.length)(q:Nat):oF (i:Int) (eh q (aq ps i):Int) (eh q ps:Int):=by
 have key:∀j:Nat,ao (eh q (aq ps i):Int) (j:Int)=match (if j=i then ps[i+1]? else if j=i+1 then ps[i]? else ps[j]?)with|some v=>ao (q:Int) v|none=>false:=fun j=>by
  rw[jm,rW,eG h]
 have s:∀j:Nat,ao (eh q ps:Int) (j:Int)=match ps[j]? with|some v=>ao (q:Int) v|none=>false:=fun j=>by
  rw[jm,rW]
 refine⟨?_,?_,fun j q t z=>?_⟩;·rw[key i,if_pos rfl,show(i:Int)+1=((i+1:Nat):Int) by push_cast;rfl,s]
 ·rw[show(i:Int)+1=((i+1:Nat):Int) by push_cast;rfl,key (i+1),if_neg (by omega),if_pos rfl,s]
 ·obtain⟨j,rfl⟩:∃k:Nat,j=(k:Int):=⟨j.toNat,by omega⟩;rw[key j,if_neg (by omega),if_neg (by omega),s]

def tabP (M:St)(ps:List Int)(f:Int)(e:Edge):List Bool:=(List.range (2 ^ ps.length)).map (fun j=>tv M f (eh j ps:Int) 0 e)

theorem A5 (M:St)(ps:List Int)(f:Int)(e:Edge):(tabP M ps f e).length=2 ^ ps.length:=by unfold tabP;simp

theorem rJ {M:St}{ps:List Int}{f:Int}{e:Edge}{j:Nat}(h:j<2 ^ ps.length):(tabP M ps f e)[j]?=some (tv M f (eh j ps:Int) 0 e):=by
 unfold tabP;simp[h]

theorem lC {M M':St}(h:M.wf)(j:az M M'){ps:List Int}{f:Int}{e:Edge}(q:M.leads f e 0=true):tabP M' ps f e=tabP M ps f e:=by
 unfold tabP;refine List.map_congr_left fun s _=>?_;exact dG h j (a9.of q)

theorem rF {M:St}{ps:List Int}{f:Int}{e:Edge}(q:M.n=(ps.length:Int))(j:Nat):(cF M f e 0)[aT j ps]?=some (tv M f (eh j ps:Int) 0 e):=by
 unfold cF;rw[show(M.n-0).toNat=ps.length by omega];show(de _ ps.length 0 0)[aT j ps]?=_;rw[A6 _ _ _ _ (gK j ps),zL];simp

theorem eU.tabP {lv:Nat}{f:Int}{M:St}{e x:Edge}(h:eU (lv:Int) f M e 0 x){ps:List Int}(q:lv+1<ps.length):tabP M (aq ps lv) f x=tabP M ps f e:=by
 unfold Go.Proofs.YtafkamlhimkbmaaGreat.tabP;rw[ck];exact List.map_congr_left fun j _=>h.cD _ _ (AV q j)

open Go.RowKit

theorem tB (j:Nat)(v:Int):jn (ao (j:Int) v)=(vb j v:Int):=by
 unfold vb;cases ao (j:Int) v<;>rfl

theorem uW (a:Option Addr)(cap:Nat)(ps:List Int)(w:World)(h:aG w a ps)(T:ps.length≤16)(L:∀x∈ps,0≤x∧x≤16)(j:Nat)(Z:j≤65535) :
  Calls Tryz.prog 185 #[.slice a ps.length cap,.int .i64 (j:Int)] w fun e w'=>e=.returned (.int .i64 (aT j ps:Int))∧w=w':=by
 obtain⟨q,z⟩:∃q,q=ps.length:=⟨_,rfl⟩
 rw[←z]at T ⊢
 have H:=Lib.hid h
 have J:=Lib.hid z
 have O:=Lib.hid L
 clear h z L
 go_enter Tryz.func185,Tryz.ntmps185
 go_wp2
 go_loopg [5,6] q (fun gk z L wr=>∃d:Nat,z=.int .i64 (aT j (ps.take d):Int)∧L=.int .i64 (d:Int)∧d+gk=q∧w=wr)
 case atStart=>exact⟨0,by simp[aT],rfl,by omega,rfl⟩
 case round=>
  obtain⟨d,rfl,rfl,ab,rfl⟩:=hrel;obtain⟨y,I⟩:∃y,y=aT j (ps.take d):=⟨_,rfl⟩
  have z:y<65536:=by
   have z:=gK j (ps.take d);have z:2 ^ (ps.take d).length≤2 ^ 16:=Nat.pow_le_pow_right (by decide) (by rw[List.length_take];omega);have z:(2:Nat) ^ 16=65536:=rfl;omega
  rw[←I];have K:=Lib.hid I;clear I;by_cases U:d<q
  ·obtain⟨x,t⟩:∃b,ps[d]?=some b:=⟨_,List.getElem?_eq_getElem (by rw[←J.out];exact U)⟩;obtain⟨b,off,rfl,z⟩:=H.out d x t;have E:=O.out x (List.mem_of_getElem? t);have N:=fJ t;have s:=fun(z:World)=>jV (j:Int) x z (by omega) (by omega) E.1 E.2;rw[tB]at s;have Y:=jf j x;obtain⟨u,A⟩:∃u,u=vb j x:=⟨_,rfl⟩;rw[←A]at s Y;have S:=Lib.hid s;have W:Hid (aT j (ps.take (d+1))=2*y+u):=Lib.hid (by rw[N,uV,←K.out,←A]);clear t N s A E;go_wp2_with (first|(go_at_call 43;refine(S.out _).mono ?_;rintro e w1 ⟨rfl,rfl⟩)|fail)
   go_roundg (gk-1)
   case rel=>exact⟨d+1,by rw[W.out];push_cast;rfl,by simp,by omega,rfl⟩
   case measure=>omega
  ·have s:d=q:=(by omega);have X:Hid (aT j ps=y):=Lib.hid (by rw[K.out,List.take_of_length_le (by rw[←J.out];omega)]);clear s;go_wp2_with fail
   go_ret
   exact⟨by rw[X.out];rfl,rfl⟩

def fo (M:St):Prop:=∀id r,look M.cs id=some r→0≤r.lo.to∧0≤r.hi.to

theorem vA {M:St}(t:M.wf)(h:fo M){j:Rec}(s:0≤j.lo.to∧0≤j.hi.to):fo (M.a6 j):=by
 unfold St.a6;cases M.b4 j with
 |some id=>exact h
 |none=>
  simp only[];split;·exact h
  ·split;·exact h
   ·intro id r q;rcases(pX t.gone id r).1 q with⟨_,rfl⟩|q
    ·exact s
    ·exact h id r q

theorem CA {M:St}(z:M.wf)(h:fo M){f:Int}{e:Edge}{l:Int}(E:M.leads f e l=true)(O:0≤l)(S:l<M.n)(t:0≤e.to)(q:bT M (af M f e l)=0) :
  0≤(bN M (af M f e l)).to∧0≤(bk M f (af M f e l)).to∧fo (bQ M (af M f e l)):=by
 have J:∀a,a=(.inl (aI f l e):(Edge×Edge×Int) ⊕ Rec)→0≤(bN M a).to∧0≤(bk M f a).to∧fo (bQ M a):=fun a N=>by
  subst N;refine⟨?_,?_,h⟩
  ·show 0≤(aI f l e).1.to;unfold aI;split;·exact t
   ·split<;>exact t
  ·show 0≤(aI f l e).2.1.to;unfold aI;split;·exact t
   ·split<;>exact Int.le_refl _
 obtain⟨A,K⟩:∃A,A=af M f e l:=⟨_,rfl⟩
 rw[←K]at q ⊢
 have j:=K
 unfold af at j
 rw[if_neg (by omega),if_neg (by rw[E];simp)]at j
 split at j
 ·rw[j];exact⟨t,t,h⟩
 ·cases s:look M.cs e.to with
  |none=>
   rw[s]at j;exact J A j
  |some r=>
   rw[s]at j;simp only[]at j;obtain⟨L,I⟩:=h _ _ s;by_cases t:l<r.I
   ·rw[if_pos t]at j;exact J A j
   ·rw[if_neg t]at j;split at j
    ·rw[j]at q ⊢;change M.a7 ⟨r.ad,r.I+1,r.J,r.lo,r.hi⟩=0 at q
     have hid:0≤(ba M 0 ⟨r.ad,r.I+1,r.J,r.lo,r.hi⟩).to:=by
      rw[dW q];show 0≤M.bg _;unfold St.a7 at q;unfold St.bg;cases hi:M.b4 ⟨r.ad,r.I+1,r.J,r.lo,r.hi⟩with
      |some id=>have:=(bL (jA hi)).1;simp only[];omega
      |none=>
       rename_i t;have g:=z.b8 s;have J:r.ad=f:=(dD E s).1;have A:M.bq ⟨r.ad,r.I+1,r.J,r.lo,r.hi⟩=false:=lh g z.bw (by have:=(dD E s).2.1;omega) (by rw[J];exact t.1) t.2;have:=(iL z A (by unfold St.a7;rw[hi]at q ⊢;exact q)).2.2.2.1;unfold St.bg at this;rw[hi]at this;omega
     refine⟨hid,?_,vA z h ⟨L,I⟩⟩;show 0≤(if M.a7 _=0 then(if f=4 then ba M 0 _ else r.hi)else⟨0,0⟩:Edge).to;rw[if_pos q];split;·exact hid
     ·exact I
    ·rw[j];exact⟨L,I,h⟩

theorem zD {f:Int}(t:1≤f∧f≤5):∀(k:Nat) (l:Int) (M:St) (e:Edge),M.wf→M.room=1048576→M.len+((2 ^ k:Nat):Int)≤1048576→0≤e.to→fo M→M.leads f e l=true→bH M f e l→0≤l→l+(k:Int)=M.n →
  ∃M',az M M'∧M'.wf∧M'.room=1048576∧M'.len+1≤M.len+((2 ^ k:Nat):Int)∧fo M'∧aC f M' k (cF M f e l) l e:=by
 intro k
 induction k with
 |zero=>
  intro l M e q W a7 N O s L E U;have a8:l=M.n:=by simpa using U
  have Z:(M.n-l).toNat=0:=by omega
  refine⟨M,az.refl M,q,W,by show M.len+1≤M.len+((1:Nat):Int);omega,O,?_⟩;by_cases Y:e.to=0
  ·have:=(vL q t t s E Y).own L;rw[Z]at this;exact this
  ·have a':e.ok:=by
    obtain⟨ad,ab⟩:=aY.1 s;obtain⟨bq,br,bs,bt,bv,bw,bb,be⟩:=bm.1 ad
    have bq:e.to<2:=by
     rcases ab with ab|⟨r,a,b,c,d⟩;·exact ab
     ·have g:=q.b8 a;have:=g.tb;have:=g.bn;omega
    refine⟨?_,⟨N,by omega⟩⟩;by_cases ab:f=5
    ·have:=be ab Y;omega
    ·have:=bb (.inl ab);omega
   have:=(vK q t t a' s a8 Y).own L;rw[Z]at this;exact this
 |succ k a2=>
  intro l M e q W a7 N O s L E U;push_cast at U;have a6:2 ^ (k+1)=2 ^ k+2 ^ k:=by rw[Nat.pow_succ];omega
  have ad:0<2 ^ k:=Nat.pow_pos (by decide);have I:l<M.n:=by omega
  have X:bT M (af M f e l)=0:=by
   by_cases j:bT M (af M f e l)=0;·exact j
   ·have:=(lF q s I j).2.2;omega
  have j:=fL q s I X;obtain⟨am,av,aw⟩:=jW q s E I X L rfl rfl rfl;obtain⟨a4,a3,a1⟩:=CA q O s E I N X;obtain⟨J,K⟩:∃A,A=bQ M (af M f e l):=⟨_,rfl⟩;obtain⟨lo,T⟩:∃A,A=bN M (af M f e l):=⟨_,rfl⟩;obtain⟨hi,S⟩:∃A,A=bk M f (af M f e l):=⟨_,rfl⟩;rw[←K,←T,←S]at j am;rw[←K,←T]at av;rw[←K,←S]at aw;rw[←T]at a4;rw[←S]at a3;rw[←K]at a1;have q:=j.ext.n;obtain⟨a5,z,bg,bi,q,bn,bp⟩:=a2 (l+1) J lo j.wf (by rw[j.room];exact W) (by have:=j.len;omega) a4 a1 j.cq av (by omega) (by omega);have q:=z.n;obtain⟨q,s,A,L,O,N,K⟩:=a2 (l+1) a5 hi bg bi (by have:=j.len;omega) a3 bn (z.leads j.cg) (dv z j.wf aw) (by omega) (by omega);refine⟨q,(j.ext.trans z).trans s,A,L,by have:=j.len;omega,N,?_⟩;rw[rH j.wf z (a9.of j.cg)]at K;have A:(J.n-(l+1)).toNat=k:=by omega
  have q:(cF J f lo (l+1)).length=2 ^ k:=by rw[nZ,A]
  have L:(cF J f hi (l+1)).length=2 ^ k:=by rw[nZ,A]
  rw[rL j E I];refine⟨by rw[List.length_append,q,L,a6],lo,hi,?_,?_,(am.ext z t).ext s t⟩
  ·rw[List.take_left' q];exact aC.ext s t _ _ _ _ bp
  ·rw[List.drop_left' q];exact K

theorem zC {f:Int}(E:1≤f∧f≤5){M:St}{e:Edge}{k:Nat}{l:Int}(q:M.wf)(J:M.len+((2 ^ k:Nat):Int)≤1048576)(A:0≤e.to)(I:fo M)(s:M.leads f e l=true)(L:bH M f e l)(z:0≤l)(K:l+(k:Int)=M.n) :
  ∃M',az M M'∧M'.wf∧M'.room=1048576∧M'.len+1≤M.len+((2 ^ k:Nat):Int)∧fo M'∧aC f M' k (cF M f e l) l e:=by
 have j:=az.b0 M
 obtain⟨M',N,O,S,T,U,t⟩:=zD E k l M.b0 e q.b0 rfl J A I (j.leads s) (dv j q L) z K
 rw[rH q j (a9.of s)]at t
 exact⟨M',j.trans N,O,S,T,U,t⟩

theorem ag.g1 {F:Nat→Prop}{w:World}{j:Nat}{M:St}(h:ag F w j M):fo M:=fun id r j=>by
 have:=h.b1 j;exact⟨this.lo.2.1,this.hi.2.1⟩

theorem o4 {ps:List Int}(K:ar ps=true){j q:Nat}(I:j<2 ^ ps.length)(J:q<2 ^ ps.length)(h:aT j ps=aT q ps):j=q:=by
 have key:∀(s:List Int),aT j s=aT q s→∀v∈s,ao (j:Int) v=ao (q:Int) v:=by
  intro s;induction s with
  |nil=>intro _ v t;cases t
  |cons u s N=>
   intro E v t;have O:=gK j s;have O:=gK q s;change vb j u*2 ^ s.length+aT j s=vb q u*2 ^ s.length+aT q s at E;have s:=jf j u;have s:=jf q u;have z:vb j u=0∨vb j u=1:=(by omega);have A:vb q u=0∨vb q u=1:=by omega
   have e:vb j u=vb q u:=by
    rcases z with z|z<;>rcases A with A|A<;>rw[z,A]at E ⊢<;>omega
   rw[e]at E;rcases List.mem_cons.1 t with rfl|t
   ·unfold vb at e;cases L:ao (j:Int) v<;>cases j:ao (q:Int) v<;>rw[L,j]at e<;>first|rfl|(exfalso;revert e;decide)
   ·exact N (by omega) v t
 apply Nat.eq_of_testBit_eq;intro j;by_cases q:j<ps.length
 ·have q:(j:Int)∈ps:=(kY.1 K).2.symm.subset (fG.2 ⟨by omega,by omega⟩);have:=key ps h _ q;rwa[jm,jm]at this
 ·rw[Nat.testBit_lt_two_pow (Nat.lt_of_lt_of_le I (Nat.pow_le_pow_right (by decide) (by omega))),Nat.testBit_lt_two_pow (Nat.lt_of_lt_of_le J (Nat.pow_le_pow_right (by decide) (by omega)))]

theorem o5 {ps:List Int}(I:ar ps=true){y:Nat}(q:y<2 ^ ps.length):∃j,j<2 ^ ps.length∧aT j ps=y:=by
 have A:((List.range (2 ^ ps.length)).map (fun j=>(aT j ps:Int))).Nodup:=by
  rw[List.nodup_iff_pairwise_ne,List.pairwise_map];refine(List.nodup_iff_pairwise_ne.1 List.nodup_range).imp_of_mem ?_;intro a b q s E t;rw[List.mem_range]at q s;exact E (o4 I q s (by omega))
 have J:∀x∈(List.range (2 ^ ps.length)).map (fun j=>(aT j ps:Int)),x∈du (2 ^ ps.length):=fun x K=>by
  obtain⟨j,_,rfl⟩:=List.mem_map.1 K;have:=gK j ps;exact fG.2 ⟨by omega,by omega⟩
 have q:=k7 _ (du (2 ^ ps.length)) A J (by rw[iV,List.length_map,List.length_range];exact Nat.le_refl _);have z:(y:Int)∈(List.range (2 ^ ps.length)).map (fun j=>(aT j ps:Int)):=q.subset (fG.2 ⟨by omega,by omega⟩);obtain⟨j,q,t⟩:=List.mem_map.1 z;exact⟨j,List.mem_range.1 q,by omega⟩

def eM:List Bool→Nat
 |[]=>0
 |b::l=>(if b then 1 else 0)+2*eM l

theorem mX:∀l:List Bool,eM l<2 ^ l.length:=by
 intro l;induction l with
 |nil=>decide
 |cons b l j=>
  show(if b then 1 else 0)+2*eM l<2 ^ (l.length+1);rw[Nat.pow_succ];cases b<;>simp<;>omega

theorem ye:∀(l:List Bool) (i:Nat),eM l / 2 ^ i%2=if l.getD i false then 1 else 0:=by
 intro l;induction l with
 |nil=>intro i;simp[eM]
 |cons b l j=>
  intro i;cases i with
  |zero=>
   show((if b then 1 else 0)+2*eM l) / 2 ^ 0%2=if b then 1 else 0;cases b<;>simp<;>omega
  |succ i=>
   show((if b then 1 else 0)+2*eM l) / 2 ^ (i+1)%2=if l.getD i false then 1 else 0;rw[←j i,Nat.pow_succ,Nat.mul_comm (2 ^ i) 2,←Nat.div_div_eq_div_mul];congr 2
   cases b<;>simp<;>omega

def eE (n:Int)(ws:List Int):Bool:=decide (0≤n∧n≤16)&&(decide (ws.length=max 1 (2 ^ n.toNat / 64))&&decide (6≤n∨ws.getD 0 0<2 ^ 2 ^ n.toNat))

def hasB (ws:List Int)(x:Nat):Bool:=ws.getD (x / 64) 0 / 2 ^ (x%64)%2==1

theorem ix {n:Int}{ws:List Int}:eE n ws=true↔(0≤n∧n≤16)∧ws.length=max 1 (2 ^ n.toNat / 64)∧(6≤n∨ws.getD 0 0<2 ^ 2 ^ n.toNat):=by
 unfold eE;rw[Bool.and_eq_true,Bool.and_eq_true,decide_eq_true_eq,decide_eq_true_eq,decide_eq_true_eq]

def bB (ts:List Bool):List Int:=(List.range ((ts.length+63) / 64)).map (fun w=>(eM ((ts.drop (64*w)).take 64):Int))

theorem lH (ts:List Bool):(bB ts).length=(ts.length+63) / 64:=by unfold bB;simp

theorem ow {ts:List Bool}{w:Nat}(h:w<(ts.length+63) / 64):(bB ts).getD w 0=(eM ((ts.drop (64*w)).take 64):Int):=by
 unfold bB;rw[List.getD_eq_getElem?_getD,List.getElem?_map,List.getElem?_range h];rfl

theorem vU {ts:List Bool}{x:Nat}(h:x<ts.length):hasB (bB ts) x=ts.getD x false:=by
 unfold hasB;rw[ow (by omega)];have j:=ye ((ts.drop (64*(x / 64))).take 64) (x%64)
 have e:((ts.drop (64*(x / 64))).take 64).getD (x%64) false=ts.getD x false:=by
  rw[List.getD_eq_getElem?_getD,List.getD_eq_getElem?_getD,List.getElem?_take_of_lt (by omega),List.getElem?_drop,show 64*(x / 64)+x%64=x from by omega]
 rw[e]at j;have q:((eM ((ts.drop (64*(x / 64))).take 64):Int) / 2 ^ (x%64))%2=((eM ((ts.drop (64*(x / 64))).take 64) / 2 ^ (x%64)%2:Nat):Int):=by push_cast;rfl
 rw[q,j];cases ts.getD x false<;>rfl

theorem CK:∀n:Nat,n≤16→(2 ^ n+63) / 64=max 1 (2 ^ n / 64):=by decide

theorem zY {ts:List Bool}{n:Nat}(q:n≤16)(j:ts.length=2 ^ n):eE (n:Int) (bB ts)=true:=by
 have s:0<2 ^ n:=Nat.pow_pos (by decide);refine ix.2 ⟨by omega,by rw[lH,j,Int.toNat_natCast];exact CK n q,?_⟩;by_cases j:6≤n;·exact .inl (by omega)
 ·right;rw[ow (by omega),Int.toNat_natCast];have j:=mX ((ts.drop (64*0)).take 64);have q:((ts.drop (64*0)).take 64).length≤2 ^ n:=by rw[List.length_take,List.length_drop];omega
  have s:2 ^ ((ts.drop (64*0)).take 64).length≤2 ^ 2 ^ n:=Nat.pow_le_pow_right (by decide) q;exact_mod_cast Nat.lt_of_lt_of_le j s

def bR (has:Nat→Bool):List Int→Nat→List Bool
 |[],x=>[has x]
 |v::j,x=>bR has j x++bR has j (x ||| 2 ^ v.toNat)

theorem gl (has:Nat→Bool):∀(j:List Int) (x:Nat),(bR has j x).length=2 ^ j.length:=by
 intro j;induction j with
 |nil=>intro x;rfl
 |cons v j q=>intro x;show(bR has j x++bR has j _).length=2 ^ (j.length+1);rw[List.length_append,q,q,Nat.pow_succ];omega

def iv (j:Nat):List Int→Nat→Nat
 |[],x=>x
 |v::q,x=>iv j q (if ao (j:Int) v=true then x ||| 2 ^ v.toNat else x)

theorem lY (has:Nat→Bool)(q:Nat):∀(j:List Int) (x:Nat),(bR has j x)[aT q j]?=some (has (iv q j x)):=by
 intro j;induction j with
 |nil=>intro x;rfl
 |cons v j t=>
  intro x;show(bR has j x++bR has j (x ||| 2 ^ v.toNat))[vb q v*2 ^ j.length+aT q j]?=some (has (iv q j _));have s:=gK q j;unfold vb;by_cases s:ao (q:Int) v=true
  ·rw[if_pos s,if_pos s,List.getElem?_append_right (by rw[gl];omega),gl,show 1*2 ^ j.length+aT q j-2 ^ j.length=aT q j from by omega];exact t _
  ·rw[if_neg s,if_neg s,List.getElem?_append_left (by rw[gl];omega),show 0*2 ^ j.length+aT q j=aT q j from by omega];exact t _

theorem yT (s:Nat):∀(q:List Int) (x j:Nat),(∀v∈q,0≤v)→(iv s q x).testBit j=(x.testBit j||(decide ((j:Int)∈q)&&s.testBit j)):=by
 intro q;induction q with
 |nil=>intro x j _;simp[iv]
 |cons v q J=>
  intro x j h;have K:=h v (by simp);show(iv s q _).testBit j=_;rw[J _ j (fun u I=>h u (by simp[I]))];obtain⟨V,rfl⟩:∃V:Nat,v=(V:Int):=⟨v.toNat,by omega⟩;rw[jm,Int.toNat_natCast];by_cases t:j=V
  ·subst t;cases A:s.testBit j<;>simp[Nat.testBit_or,Nat.testBit_two_pow]
  ·have E:¬V=j:=fun e=>t e.symm;have z:¬(j:Int)=(V:Int):=(by omega);cases A:s.testBit V;·simp[z]
   ·simp[z,Nat.testBit_or,Nat.testBit_two_pow,E]

theorem nd {j:Nat}{ps:List Int}(s:ar ps=true)(z:j<2 ^ ps.length):iv j ps 0=j:=by
 obtain⟨A,t,E⟩:=dm.1 s;apply Nat.eq_of_testBit_eq;intro q;rw[yT j ps 0 q (fun v A=>(t v A).1)];by_cases t:q<ps.length
 ·have:(q:Int)∈ps:=(kY.1 s).2.symm.subset (fG.2 ⟨by omega,by omega⟩);simp[this]
 ·have:j.testBit q=false:=Nat.testBit_lt_two_pow (Nat.lt_of_lt_of_le z (Nat.pow_le_pow_right (by decide) (by omega)));simp[this]

end Go.Proofs.YtafkamlhimkbmaaGreat
