/-
  law27.alive: the chapter's example.
-/
import Derived.Test.YtafkamlhimkbmaaGreatPLFBed
import Derived.Test.YtafkamlhimkbmaaGreatPSiftJ
namespace Go.Proofs.YtafkamlhimkbmaaGreat
set_option maxRecDepth 1000000
set_option maxHeartbeats 8000000
set_option linter.unusedSimpArgs false
set_option linter.unusedVariables false
open Go.RowKit

def ji (i:Nat):Bool:=(an (i:Int) 0&&an (i:Int) 2)||(an (i:Int) 1&&an (i:Int) 3)

def fN (d:Nat):List Bool:=(List.range 16).map (fun i=>if i<d then ji i else false)

def eD:List (Int×List Bool):=[(1,fN 16)]

theorem jH (d:Nat):(fN d).length=16:=by unfold fN;simp

theorem ya {d:Nat}(q:d<16):(fN d).set d (ji d)=fN (d+1):=by
 apply List.ext_getElem?;intro i;by_cases hi:i<16
 ·by_cases j:d=i
  ·subst j;rw[List.getElem?_set_self (by rw[jH];exact q)];unfold fN;rw[List.getElem?_map,List.getElem?_range hi];simp
  ·rw[List.getElem?_set_ne j];unfold fN;rw[List.getElem?_map,List.getElem?_map,List.getElem?_range hi];simp only[Option.map_some];by_cases j:i<d;·rw[if_pos j,if_pos (by omega)]
   ·rw[if_neg j,if_neg (by omega)]
 ·rw[List.getElem?_eq_none (by rw[List.length_set,jH];omega),List.getElem?_eq_none (by rw[jH];omega)]

theorem Ab:aI eD [0,1,2,3]=6:=by kernel_rfl

theorem Ac:((List.range 24).all fun k=>decide (4≤aI eD (bo 4 k)))=true:=by kernel_rfl

theorem Ae:((List.range 24).any fun k=>decide (aI eD (bo 4 k)=4))=true:=by kernel_rfl

theorem Ad:aI eD (eE (aI eD) 4)=4:=by
 obtain⟨k,s,j⟩:=ky (aI eD) 4 23;have q:=List.all_eq_true.1 Ac k (List.mem_range.2 (by omega));obtain⟨A,s,t⟩:=List.any_eq_true.1 Ae;have z:=wU (aI eD) 4 23 A (by have:=List.mem_range.1 s;omega);have e:eE (aI eD) 4=bY (aI eD) 4 23:=rfl;rw[e];rw[j]at z ⊢;have j:=of_decide_eq_true q;have j:=of_decide_eq_true t;omega

theorem sT {w:World}{s q c:Nat}{a:Option Addr}{rs:List (Int×Edge)}(h:w.ownsRow s 55 3 (.slice a q c) q (rs.flatMap dI))(t:a=none):c=0:=by
 rcases h.2 with⟨j,_⟩|⟨z,q,s,j,_⟩
 ·cases j;rfl
 ·cases j;cases t

theorem iC.go {Fo:Nat→Prop}{w wr:World}{J I c:Nat}{a:Option Addr}{room:Int}{ps:List Int}{j:List (Int×List Bool)}{F:Nat→Prop}{M:St}{rs:List (Int×Edge)}(h:iC Fo w wr J I room ps j j.length (.slice a j.length c) F M rs)(X:aA ps=true)(W:ps.length≤5)(U:j.length≤4)(Y:(j.length:Int)*300<room)(Z:room≤1000000) :
  eO F Fo wr J I M ps∧ct M ps j rs∧M.room=room∧(∀z,ae (fun E=>F E∨Fo E) wr z→dJ z a rs)∧(a=none→c=0)∧rs.length=j.length:=by
 have s:=h.cp
 rw[List.take_length]at s
 have O:∀r∈rs,(0≤r.1∧r.1≤255)∧r.2.ok:=fun r t=>⟨by have:=(s.leads r t).1;omega,s.fa r t⟩
 refine⟨h.bw,s,h.room,fun z L i r t=>?_,sT h.row,s.1⟩
 have z:j.length≠0:=by have:=(List.getElem?_eq_some_iff.1 t).1;have:=s.1;omega
 obtain⟨g,rfl⟩:∃g,a=some ⟨g,0,none⟩:=by
  rcases h.row.2 with⟨A,E⟩|⟨K,j,z,A,_⟩
  ·omega
  ·cases A;exact⟨K,rfl⟩
 obtain⟨S,T⟩:=h.apart g rfl
 exact((qp h.row s.1.symm).a4 L (fun N=>by rcases N with q|q;exact S q;exact T q)).roots O i r t

theorem mf (w:World):Calls Tryz.prog 8 #[] w fun e I=>e=.returned (.bool true)∧aa w I:=by
 obtain⟨cj,ch,cl,cn,co⟩:=info_parts o6;go_enter Tryz.func8,Tryz.ntmps8
 go_wp2_with (first
  |(at_make;refine wpList_make_full _ rfl _ _ 62 rfl w.heap.size 4 cj (.bool false) 1 Tryz.underlying62 ch cl cn .i64 .i64 16 16 16 rfl rfl rfl rfl (by rw[co];omega) (by unfold maxLen;omega) (Nat.le_refl _) ?_;intro w1 bx s)
  |fail)
 have X:=lG bx;have bt:aa w w1:=⟨s.os,s.tape,s.output,s.size,fun i hi=>s.block i hi (by simp)⟩;have U:=Lib.hid X;have a5:=Lib.hid bt;have cp:=X.lt;clear bx s X bt;obtain⟨B,bq⟩:∃B,B=w.heap.size:=⟨_,rfl⟩;have cf:w.heap.size≤B:=by omega
 rw[←bq]at U cp ⊢;clear bq;go_loopg [2] 16 (fun gk s wr=>∃d:Nat,s=.int .i64 (d:Int)∧d+gk=16∧bm wr B (fN d)∧ae (fun a1=>a1=B) w1 wr)
 case atStart=>exact⟨0,rfl,rfl,U.out,ae.refl _ _⟩
 case round=>
  obtain⟨d,rfl,X,A,s⟩:=hrel;have a3:=Lib.hid A;have W:=Lib.hid s;have X:=s.size;clear s U;by_cases bw:d<16
  ·obtain⟨x,z⟩:∃x,(fN d)[d]?=some x:=⟨_,List.getElem?_eq_getElem (by rw[jH];exact bw)⟩;have s:=A.cell z;have s:=A.frozen d;have ad:=fun(j:World)=>jO (d:Int) 0 j (by omega) (by omega) (by omega) (by omega);have am:=fun(j:World)=>jO (d:Int) 1 j (by omega) (by omega) (by omega) (by omega);have av:=fun(j:World)=>jO (d:Int) 2 j (by omega) (by omega) (by omega) (by omega);have aw:=fun(j:World)=>jO (d:Int) 3 j (by omega) (by omega) (by omega) (by omega);have q:ji d=((an (d:Int) 0&&an (d:Int) 2)||(an (d:Int) 1&&an (d:Int) 3)):=rfl;have T:=A.set d (ji d);rw[ya bw]at T;obtain⟨V,br⟩:∃V,V=ji d:=⟨_,rfl⟩;rw[←br]at q T;have b7:=Lib.hid T;obtain⟨b8,bg⟩:∃b,b=an (d:Int) 0:=⟨_,rfl⟩;obtain⟨b9,bi⟩:∃b,b=an (d:Int) 1:=⟨_,rfl⟩;obtain⟨ca,bn⟩:∃b,b=an (d:Int) 2:=⟨_,rfl⟩;obtain⟨cb,bp⟩:∃b,b=an (d:Int) 3:=⟨_,rfl⟩;rw[←bg]at ad q;rw[←bi]at am q;rw[←bn]at av q;rw[←bp]at aw q;clear bg bi bn bp T A z br;have K:=Lib.hid ad;have L:=Lib.hid am;have N:=Lib.hid av;have be:=Lib.hid aw;clear ad am av aw;cases b8<;>cases b9<;>cases ca<;>cases cb<;>(simp only[Bool.and_true,Bool.and_false,Bool.or_true,Bool.or_false]at q;subst q;simp only[jk]at K L N be)
   all_goals
    go_wp2_with (first
     |(go_at_call 43;have E:=K;clear E;refine(K.out _).mono ?_;rintro e I ⟨rfl,rfl⟩;clear K)
     |(go_at_call 43;have E:=N;clear E;refine(N.out _).mono ?_;rintro e I ⟨rfl,rfl⟩;clear N)
     |(go_at_call 43;have E:=L;clear E;refine(L.out _).mono ?_;rintro e I ⟨rfl,rfl⟩;clear L)
     |(go_at_call 43;refine(be.out _).mono ?_;rintro e I ⟨rfl,rfl⟩)
     |fail)
    go_roundg (gk-1)
    case rel=>exact⟨d+1,by simp,by omega,b7.out,cE (P:=fun a1=>a1=B) rfl W.out _ _⟩
    case measure=>omega
  ·have cg:d=16:=(by omega);subst cg;have bv:aa w wr:=a5.out.new W.out (fun k Y=>by subst Y;exact cf);have a7:=Lib.hid bv;clear bv a5 W;obtain⟨J,t⟩:∃j,j=(wr.alloc (.cells #[.int .i64 0,.int .i64 1,.int .i64 2,.int .i64 3] 3)).alloc (.cells #[.int .u8 1,.slice (some ⟨B,0,none⟩) 16 16] 96):=⟨_,rfl⟩;have Z:aa wr J:=by rw[t];exact((aa.refl _).alloc _).alloc _
   have bs:aL J (some ⟨wr.heap.size,0,none⟩) [0,1,2,3]:=fun i x z=>by
    rw[t];refine⟨wr.heap.size,0,rfl,?_⟩;have hi:=(List.getElem?_eq_some_iff.1 z).1;have ce:i=0∨i=1∨i=2∨i=3:=(by simp at hi;omega);rcases ce with rfl|rfl|rfl|rfl<;>(simp at z;subst z;simp[go_sem])
   have b0:fG J (some ⟨wr.heap.size+1,0,none⟩) (2 ^ [(0:Int),1,2,3].length) eD:=fun i r ab=>by
    have hi:=(List.getElem?_eq_some_iff.1 ab).1;have cd:i=0:=(by simp[eD]at hi;exact hi);subst cd;have ci:r=(1,fN 16):=(by simp[eD]at ab;exact ab.symm);subst ci;refine⟨⟨by decide,by decide⟩,jH 16,wr.heap.size+1,0,B,rfl,?_,?_,jl a3.out Z⟩;·rw[t];simp[go_sem]
    ·rw[t];simp[go_sem]
   have q:=oo 500 (some ⟨wr.heap.size,0,none⟩) (some ⟨wr.heap.size+1,0,none⟩) 4 1 [0,1,2,3] eD J bs (by decide) (by decide) b0 (by decide) (by decide) (by decide);have a4:=Lib.hid q;have a6:=Lib.hid (a7.out.trans Z);clear bs b0 q Z a3 a7;go_wp2_with fail
   rw[←t];clear t;refine a4.out.mono ?_;rintro e a2 ⟨cy,cv,F,Fo,M,a,c,rs,rfl,S⟩;obtain⟨hS,s,q,z,K,t⟩:=S.go (by decide) (by decide) (by decide) (by decide) (by decide);have I:=a6.out.trans S.U;have E:∀k,F k∨Fo k→J.heap.size≤k:=S.e4;have J:=(s.size hS.a5 (by decide) hS.n (by decide) (by have:=hS.a5.wf.c6;rw[q]at this;omega)).1;rw[Ab]at J;have A:=zZ hS.a5 a c rs (z a2 (ae.refl _ _)) (by rw[t];decide) (pK s) (by omega);rw[J,t]at A;have J:=fun(j:World) (O:aa a2 j)=>qA (cap3:=c) (hS.U O) (by decide) (by decide) (by decide) (by rw[q];decide) (by rw[q];decide) s ((z a2 (ae.refl _ _)).U O) K;have bb:=Lib.hid A;have a8:=Lib.hid J;have b3:=Lib.hid I;have b2:=Lib.hid E;have L:=a6.out.size;clear hS s q z K t S I E A J a4;go_wp2_with fail
   refine bb.out.mono ?_;rintro e cq ⟨rfl,q⟩;have a':=Lib.hid (a8.out cq q);have b4:=Lib.hid q;clear a8 bb q;go_wp2_with fail
   refine a'.out.mono ?_;rintro e b1 ⟨g,F',M',cx,rfl,s,-,-,A,-,-,-,-,t⟩;have q:=fun(j:World) (O:aa b1 j)=>nc (s.a5.U O);have j:M'.len=4:=(by rw[A];exact_mod_cast Ad);rw[j]at q;have b6:=Lib.hid q;have z:aa w b1:=(b3.out.trans b4.out).new t (fun k Y=>by have:=b2.out k Y;omega);have b5:=Lib.hid z;clear s A t q j z a';go_wp2_with (first|(go_at_call 21;refine(b6.out _ (by(exact kp))).mono ?_;rintro e j ⟨rfl,rfl⟩)|fail)
   go_ret
   exact⟨rfl,b5.out⟩

theorem vN:(Tryz.prog.info? 96).map (fun i=>(i.zero,i.size,i.bytes))=some (some (.agg #[.int .u8 0,.slice none 0 0]),2,32):=by kernel_rfl

def gr (p:Nat)(r:Int×Nat):List Value:=[.int .u8 r.1,.slice (some ⟨r.2,0,none⟩) p p]

structure fU (w wr:World)(p d:Nat)(v:Value)(fs:List (Int×List Bool))(bs:List (Int×Nat)):Prop where
 row:wr.ownsRow w.heap.size 96 2 v d (bs.flatMap (gr p))
 lb:bs.length=d
 lf:fs.length=d
 dk:∀(i:Nat) (q:Int×List Bool),fs[i]?=some q→(1≤q.1∧q.1≤5)∧q.2.length=p∧∃B,bs[i]?=some (q.1,B)∧bm wr B q.2
 U:aa w wr

theorem fU.apart {w wr:World}{p d:Nat}{v:Value}{q:List (Int×List Bool)}{j:List (Int×Nat)}(h:fU w wr p d v q j){B:Nat}{ts:List Bool}(s:bm wr B ts):v.ownBlock≠some B:=fun e=>by
 obtain⟨q,j⟩:=bJ h.row e;exact dm j s (by decide) rfl

theorem fU.step {w wr s:World}{p d:Nat}{v:Value}{g cap B:Nat}{f:Int}{ts:List Bool}{t:List (Int×List Bool)}{q:List (Int×Nat)}(h:fU w wr p d v t q)(I:s.ownsRow w.heap.size 96 2 (.slice (some ⟨g,0,none⟩) (d+1) cap) (d+1) (q.flatMap (gr p)++gr p (f,B)))(z:ae (fun k=>v.ownBlock=some k) wr s)(K:bm s B ts)(L:1≤f∧f≤5)(O:ts.length=p) :
  fU w s p (d+1) (.slice (some ⟨g,0,none⟩) (d+1) cap) (t++[(f,ts)]) (q++[(f,B)]):=by
 have A:=h.lb
 have E:=h.lf
 refine⟨by rw[List.flatMap_append];simpa using I,by rw[List.length_append];simp[A],by rw[List.length_append];simp[E],fun i S j=>?_,h.U.new z (fun k s=>gT h.row s)⟩
 by_cases hi:i<d
 ·rw[List.getElem?_append_left (by omega)]at j;obtain⟨E,I,A,J,s⟩:=h.dk i S j;exact⟨E,I,A,by rw[List.getElem?_append_left (by omega)];exact J,s.a4 z (h.apart s)⟩
 ·rw[List.getElem?_append_right (by omega)]at j;have N:=(List.getElem?_eq_some_iff.1 j).1;simp at N;have s:i-t.length=0:=by omega
  rw[s]at j;cases j;exact⟨L,O,B,by rw[List.getElem?_append_right (by omega),show i-q.length=0 by omega];rfl,K⟩

theorem uS {p:Nat}{j:List (Int×Nat)}{i:Nat}{r:Int×Nat}(h:j[i]?=some r):(j.flatMap (gr p))[i*2]?=some (.int .u8 r.1)∧(j.flatMap (gr p))[i*2+1]?=some (.slice (some ⟨r.2,0,none⟩) p p):=by
 induction j generalizing i with
 |nil=>simp at h
 |cons b j q=>
  cases i with
  |zero=>cases h;exact⟨rfl,rfl⟩
  |succ i=>
   have:=q (i:=i) (by simpa using h);rw[show(i+1)*2=i*2+1+1 by omega];exact this

theorem fU.hv {w wr:World}{p d c:Nat}{a:Option Addr}{t:List (Int×List Bool)}{s:List (Int×Nat)}(h:fU w wr p d (.slice a d c) t s):fG wr a p t:=fun i U E=>by
 obtain⟨K,L,B,z,N⟩:=h.dk i U E;obtain⟨S,T⟩:=uS (p:=p) z;rcases h.row.2 with⟨q,U⟩|⟨J,cap2,I,q,t,A,_,_,_,O⟩
 ·have:=(List.getElem?_eq_some_iff.1 E).1;have:=h.lf;omega
 ·cases q;have q:=h.lb;have hi:=(List.getElem?_eq_some_iff.1 z).1
  have key:∀(q:Nat) (u:Value),(s.flatMap (gr p))[q]?=some u→I[q]?=some u:=fun q u j=>by
   rw[←O,List.getElem?_take]at j;split at j
   ·rw[Array.getElem?_toList]at j;exact j
   ·cases j
  refine⟨K,L,J,0,B,rfl,?_,?_,N⟩
  ·rw[Nat.zero_add,cell_of_row _ _ _ _ _ _ A];simp only[key _ _ S]
  ·rw[Nat.zero_add,cell_of_row _ _ _ _ _ _ A];simp only[key _ _ T]

theorem sR (n:Nat)(t:n≤20)(a:Int)(q:0≤a)(s:a≤18446744073709551615)(p:Nat)(z:p=2 ^ n)(w:World) :
  Calls Tryz.prog 25 #[.int .i64 (n:Int),.int .u64 a] w fun e j=>∃g ts,w.heap.size≤g∧ts.length=p∧e=.returned (.slice (some ⟨g,0,none⟩) p p)∧bm j g ts∧aa w j:=by
 subst z
 refine(sS n t a q s w).mono ?_
 rintro e j ⟨ts,j,q,s,t⟩
 exact⟨_,ts,Nat.le_refl _,j,q,s,t⟩

theorem zi (n:Nat)(bb:n≤6)(a0:Option Addr)(t cap0:Nat)(ws:List (Int×Int))(w:World)(L:iF w a0 t ws) :
  Calls Tryz.prog 10 #[.int .i64 (n:Int),.slice a0 t cap0] w fun e A=>aa w A∧(e=.returned (.tuple #[.slice none 0 0,.bool false])∨∃a c s,e=.returned (.tuple #[.slice a s.length c,.bool true])∧s.length≤4∧fG A a (2 ^ n) s):=by
 obtain⟨p,O⟩:∃p,p=2 ^ n:=⟨_,rfl⟩
 have X:=fun(a:Int) (bs:0≤a) (bt:a≤18446744073709551615) (bb:World)=>sR n (by omega) a bs bt p O bb
 obtain⟨b6,hi,b3,b4,b5⟩:=info_parts vN
 rw[←O]
 have a5:=Lib.hid X
 have K:=Lib.hid L
 have q:fU w w p 0 (.slice none 0 0) [] []:=⟨World.ownsRow_nil _ _ _ _,rfl,rfl,(fun i bb h=>by cases h),aa.refl _⟩
 have j:=Lib.hid q
 have S:=Lib.hid L.1
 clear X L O q
 go_enter Tryz.func10,Tryz.ntmps10
 go_wp2_with fail
 go_loopg [6,7] t (fun gk L O wr=>∃(d:Nat) (a:Option Addr) (c:Nat) (s:List (Int×List Bool)) (E:List (Int×Nat)),L=.slice a d c∧O=.int .i64 (d:Int)∧d+gk=t∧d≤4∧fU w wr p d (.slice a d c) s E)
 case atStart=>exact⟨0,none,0,[],[],rfl,rfl,by omega,by omega,j.out⟩
 case round=>
  clear j;obtain⟨d,a,c,s,E,rfl,rfl,L,bv,q⟩:=hrel;have Y:=q.U;by_cases L:d<t
  ·obtain⟨x,am⟩:∃x,ws[d]?=some x:=⟨_,List.getElem?_eq_getElem (by have:=S.out;omega)⟩;obtain⟨⟨bp,bq⟩,⟨a2,a3⟩,b,off,rfl,T,bg⟩:=(K.out.U Y).2 d x am;obtain⟨f,y⟩:=x;dsimp only at bp bq a2 a3 T bg;have j:=Lib.hid q;clear q am;by_cases L:f<1
   ·go_wp2_with fail
    go_ret2
    exact⟨by(exact kp),.inl rfl⟩
   ·by_cases L:5<f
    ·go_wp2_with fail
     go_ret2
     exact⟨by(exact kp),.inl rfl⟩
    ·by_cases L:3<d
     ·go_wp2_with fail
      go_ret2
      exact⟨by(exact kp),.inl rfl⟩
     ·have b7:=aD T;dsimp only at b7
      have av:(Value.slice a d c).ownBlock≠some b:=fun e=>by
       have h:=K.out.2 d (f,y);have L:=gT j.out.row e;obtain⟨ca,b2⟩:∃x,ws[d]?=some x:=⟨_,List.getElem?_eq_getElem (by have:=S.out;omega)⟩;obtain⟨-,-,b',L,bn,be,-⟩:=K.out.2 d ca b2;cases bn;have:=aD be;simp at this;omega
      have ab:∀k,Value.ownBlock (.slice a d c)=some k→k<wr.heap.size:=fun k z=>by
       obtain⟨L,K⟩:=bJ j.out.row z;exact aK K
      have a8:=Lib.hid j.out.row;have b8:d+1≤maxLen:=(by unfold maxLen;omega);have K:=Y.size;have K:wr.heap.size≠b:=(by omega);have a7:=Lib.hid ab;have a6:=Lib.hid (a5.out y a2 a3);clear ab;go_wp2_with fail
      go_region_held3 (fun A=>A.cell? ⟨b,off+d*2,none⟩=some (.int .u8 f)∧A.cell? ⟨b,off+d*2+1,none⟩=some (.int .u64 y)) (go_keep) ((first
       |(go_at_call 25;refine(a6.out _).mono ?_;rintro cb aw ⟨U,ts,bx,ad,rfl,W,N⟩;have a4:=Lib.hid W;have a':=Lib.hid ad;have ch:=N.cell (a:=⟨b,off+d*2,none⟩) (v:=.int .u8 f) (by go_keep);have ci:=N.cell (a:=⟨b,off+d*2+1,none⟩) (v:=.int .u64 y) (by go_keep);have b9:=N.size;(try simp only[World.size_alloc,World.a3,World.cD]at b9 bx);have A:aw.heap.size≠b:=(by omega);clear W ad)
       |(refine step_append_lies _ rfl (.tmp 32) (.tmp 46) 26 rfl w.heap.size 96 b6 _ 2 32 Tryz.underlying26 hi b3 b4 b5 rfl (by decide) (.slice a d c) d (E.flatMap (gr p)) rfl ?_ _ 1 1 (gr p (f,U)) rfl rfl ?_ ?_ (by decide) ?_ ?_ ?_ _ rfl ?_;exact aa.bq (show aa wr _ by(exact kp)) a8.out;(first|exact dZ _ _ _ _ (by simp)|exact lI _ _ _ _ (by simp));(intro u J;simp[gr]at J;rcases J with rfl|rfl<;>rfl);exact b8;omega;(simp;omega);intro br bi a1 b0 I cd ce;have cf:=gL (b:=b) (o:=off+d*2) (v:=.int .u8 f) I av (by go_keep);have cg:=gL (b:=b) (o:=off+d*2+1) (v:=.int .u64 y) I av (by go_keep))))
      all_goals(try go_wp2_with fail)
      all_goals go_roundg (gk-1)
      case rel=>
       have J:ae (fun k=>(Value.slice a d c).ownBlock=some k) wr a1:=ae.ca (by(exact up)) I (fun k z=>.inl z);have b1:ae (fun k=>(Value.slice a d c).ownBlock=some k) aw a1:=ae.ca (by(exact up)) I (fun k z=>.inl z);refine⟨d+1,some ⟨br,0,none⟩,bi,s++[(f,ts)],E++[(f,U)],rfl,by simp,by omega,by omega,j.out.step b0 J (a4.out.a4 b1 (fun e=>by have:=a7.out _ e;omega)) (by omega) a'.out⟩
      case measure=>omega
  ·have bw:d=t:=(by omega);subst bw;have Z:=q.lf;have j:=Lib.hid q;clear q;go_wp2_with fail
   go_ret2
   refine⟨j.out.U,.inr ⟨a,c,s,by rw[Z];rfl,by rw[Z];exact bv,j.out.hv⟩⟩

end Go.Proofs.YtafkamlhimkbmaaGreat
