/-
  Rows of words of one's own; slices.Clone, nat.Norm, fits, told, both, Of.
-/
import Derived.Test.YtafkamlhimkbmaaGreatPIntsW
import Derived.Laws.Externs
namespace Go.Proofs.YtafkamlhimkbmaaGreat
set_option maxRecDepth 1000000
set_option maxHeartbeats 8000000
set_option linter.unusedSimpArgs false
set_option linter.unusedVariables false
open Go.RowKit
theorem yj {w:World}{lo:Nat}{g:Nat}{n cap:Nat}{ps:List Int}(t:w.ownsRow lo 56 1 (.slice (some ⟨g,0,none⟩) n cap) n (ps.map (Value.int .u64))):bO w g ps∧lo≤g:=by
 obtain⟨J,N⟩:=cU t (k:=g) rfl;rcases t.2 with⟨h0,_⟩|⟨g',t,u,I,z,D,_,_,hs,E⟩
 ·cases h0
 ·cases I;refine⟨⟨u,D,fun i x t=>?_⟩,z⟩;have s:(ps.map (Value.int .u64))[i]?=some (.int .u64 x):=by rw[iB,t];rfl
  rw[←E,ic]at s;split at s
  ·rw[Array.getElem?_toList]at s;exact s
  ·cases s
def gF (lo:Nat)(w:World)(a:Option Addr)(ps:List Int):Prop:=ps≠[]→∃g,a=some ⟨g,0,none⟩∧lo≤g∧bO w g ps
theorem gF.b1 {lo:Nat}{w:World}{a:Option Addr}{ps:List Int}(h:gF lo w a ps)(u:∀x∈ps,0≤x∧x<2 ^ 64):bq w a ps:=fun i x s=>by
 obtain⟨g,t,_,z⟩:=h (fun e=>by rw[e]at s;simp at s);rw[t];exact z.b1 u i x s
theorem gF.U {lo:Nat}{w s:World}{a:Option Addr}{ps:List Int}(h:gF lo w a ps)(t:ae w s):gF lo s a ps:=fun z=>by
 obtain⟨g,s,u,D⟩:=h z;exact⟨g,s,u,D.U t⟩
def aj:Nat:=2 ^ 64
theorem aR:2≤aj:=by decide
theorem jV {w:World}{a:Option Addr}{ws:List Int}(h:bq w a ws):aM aj ws:=fun x s=>by
 obtain⟨i,hi⟩:=List.mem_iff_getElem?.1 s;exact(h i x hi).1
theorem bq.take {w:World}{a:Option Addr}{ws:List Int}(h:bq w a ws)(n:Nat):bq w a (ws.take n):=fun i x s=>by
 rw[ic]at s;split at s;·exact h i x s
 ·cases s
def aB (lo:Nat)(w:World)(v:Nat)(x:Value):Prop:=∃a cap,x=.slice a (ar aj v).length cap∧(ar aj v).length≤cap∧gF lo w a (ar aj v)
theorem aB.U {lo:Nat}{w s:World}{v:Nat}{x:Value}(h:aB lo w v x)(z:ae w s):aB lo s v x:=by
 obtain⟨a,cap,s,t,u⟩:=h;exact⟨a,cap,s,t,u.U z⟩
theorem aB.le {lo lo':Nat}{w:World}{v:Nat}{x:Value}(h:aB lo w v x)(s:lo'≤lo):aB lo' w v x:=by
 obtain⟨a,cap,s,t,u⟩:=h;refine⟨a,cap,s,t,fun z=>?_⟩;obtain⟨g,s,D,t⟩:=u z;exact⟨g,s,by omega,t⟩
theorem we (lo:Nat)(w:World):aB lo w 0 (.slice none 0 0):=by
 refine⟨none,0,by rw[fM];rfl,by rw[fM];exact aI _,fun s=>?_⟩;rw[fM]at s;exact absurd rfl s
theorem wi (v:Nat):∀x∈ar aj v,0≤x∧x<2 ^ 64:=fun x s=>ft aR v x s
theorem wY {w:World}{s:Nat}{e:TypeId}{size:Nat}{a:Option Addr}{n cap:Nat}{z:List Value}(h:w.ownsRow s e size (.slice a n cap) n z):n≤cap:=by
 rcases h.2 with⟨h0,I⟩|⟨g,s,z,u,D,E,t,_⟩
 ·omega
 ·cases u;exact t
theorem sv (a:Option Addr)(cap:Nat)(ps:List Int)(w:World)(h:bq w a ps)(Y:ps.length≤1048576) :
  Calls Tryz.prog 193 #[.slice a ps.length cap] w fun e Z=>∃D E,e=.returned (.slice D ps.length E)∧ps.length≤E∧gF w.heap.size Z D ps∧ae w Z:=by
 cases a with
 |none=>
  have aw:ps=[]:=by
   cases ps with
   |nil=>rfl
   |cons x l=>obtain⟨_,b,off,U,_⟩:=h 0 x rfl;cases U
  subst aw;clear h Y;rw[List.length_nil];have av:=fun(O:World)=>Lib.run_eql_slice_nil (P:=Tryz.prog) O 103 56 none 0 cap 0 0 Tryz.underlying103;go_enter Tryz.func193,Tryz.ntmps193;go_wp2;go_ret;exact⟨none,0,rfl,aI _,fun z=>absurd rfl z,ae.refl _⟩
 |some Q=>
  obtain⟨a2,hi,ay,a0,a1⟩:=info_parts jK
  have W:∀j s,(ps.map (Value.int .u64))[j]?=some s→w.cell? (Q.add j)=some s:=fun j s I=>by
   rw[iB,Option.map_eq_some_iff]at I;obtain⟨x,ax,rfl⟩:=I;obtain⟨_,b,off,U,am⟩:=h j x ax;cases U
   have al:(⟨b,off,none⟩:Addr).add j=⟨b,off+j,none⟩:=by
    unfold Addr.add;split
    ·rename_i h0;rw[h0];rfl
    ·rfl
   rw[al];exact am
  obtain⟨t,T⟩:∃t,t=ps.length:=⟨_,rfl⟩;rw[←T]at Y ⊢;have ab:=aa W;have V:=aa T;have ad:0+t≤maxLen:=by unfold maxLen;omega
  clear h W T;have av:=fun(O:World)=>Lib.run_eql_slice_nil (P:=Tryz.prog) O 103 56 (some Q) t cap 0 0 Tryz.underlying103;go_enter Tryz.func193,Tryz.ntmps193
  go_wp2_with (first
   |(at_builtin;refine qC rfl _ _ 103 rfl w.heap.size 56 a2 (.int .u64 0) 1 8 Tryz.underlying103 hi ay a0 a1 rfl (by decide) (.slice (some ⟨w.heap.size,0,none⟩) 0 0) 0 [] rfl (o7 w 56) Q t cap (ps.map (Value.int .u64)) rfl (by rw[j9,←V.out,Nat.mul_one]) (fun j s I=>((ae.refl w).alloc _).cell (ab.out j s I)) (fun s N=>by rw[List.mem_map]at N;obtain⟨x,_,rfl⟩:=N;rfl) ad (by omega) (by simp) ?_;intro T a5 J u O)
   |fail)
  obtain⟨D,E,rfl,ah⟩:=gi J;have s:=wY J;go_wp2_with fail;go_ret;refine⟨D,E,by simp,by omega,fun z=>?_,?_⟩
  ·obtain⟨g,rfl⟩:=ah (by rw[iD,V.out];intro e;exact z (List.length_eq_zero_iff.1 e));rw[List.nil_append]at J;obtain⟨a3,a4⟩:=yj J;exact⟨g,rfl,a4,a3⟩
  ·have N:af (fun k=>k=w.heap.size) (w.alloc (.cells #[] 56)) a5:=⟨u.os,u.tape,u.output,u.size,fun k X z=>u.block k X (fun e=>by simp[Value.ownBlock]at e;exact z e)⟩;exact((((ae.refl w).alloc (.cells #[] 56)).upd _).bd N).U (fun k X e=>by omega)
theorem kH (a:Option Addr)(cap:Nat)(ws:List Int)(w:World)(h:bq w a ws)(a1:ws.length≤1048576)(ay:ws.length≤cap) :
  Calls Tryz.prog 129 #[.slice a ws.length cap] w fun e D=>∃x,e=.returned x∧aB w.heap.size D (az aj ws).toNat x∧ae w D:=by
 have ah:=jV h
 obtain⟨s,N⟩:∃s,s=ws.length:=⟨_,rfl⟩
 obtain⟨v,Q⟩:∃v,v=(az aj ws).toNat:=⟨_,rfl⟩
 have W:=aa N
 have am:=aa h
 have Z:∀n,n≤s→(∀i x,n≤i→ws[i]?=some x→x=0)→(n=0∨∃x,ws[n-1]?=some x∧x≠0)→ws.take n=ar aj v:=fun n O h0 ax=>by rw[Q];exact Au aR ah (by omega) h0 ax
 have Y:∀n,n≤s→∀cap,ws.take n=ar aj v→Calls Tryz.prog 193 #[.slice a n cap] w fun e D=>∃x,e=.returned x∧aB w.heap.size D v x∧ae w D:=fun n O cap he=>by
  have q:=sv a cap (ws.take n) w (h.take n) (by rw[gG];omega);rw[show(ws.take n).length=n by rw[gG];omega]at q;refine q.mono ?_;rintro e w1 ⟨av,aw,rfl,D,t,u⟩;have O:n=(ar aj v).length:=by rw[←he,gG];omega
  rw[he]at t;exact⟨_,rfl,⟨av,aw,by rw[←O],by omega,t⟩,u⟩
 rw[←N]at a1 ay ⊢
 rw[←Q]
 have U:=aa Y
 have V:=aa Z
 clear Y Z h ah N Q
 go_enter Tryz.func129,Tryz.ntmps129
 go_wp2_with fail
 go_loopg [3] s (fun gk D wr=>D=.int .i64 (gk:Int)∧gk≤s∧(∀i x,gk≤i→ws[i]?=some x→x=0)∧w=wr)
 case atStart=>exact⟨rfl,aI _,fun i x hi z=>by
  have:=(List.getElem?_eq_some_iff.1 z).1;have:=W.out
  omega,rfl⟩
 case round=>
  obtain⟨rfl,ab,al,rfl⟩:=hrel;have J:=aa al;clear al;by_cases ad:gk=0
  ·subst ad;have I:=aa (V.out 0 (Nat.zero_le _) J.out (.inl rfl));have s:¬(0:Int)<((0:Nat):Int):=(by omega);go_wp2_with (first|(go_at_call 193;refine(U.out 0 (Nat.zero_le _) _ I.out).mono ?_;rintro e w1 ⟨x,rfl,t,u⟩)|fail)
   go_ret;exact⟨x,rfl,t,u⟩
  ·obtain⟨j,rfl⟩:∃j,gk=j+1:=⟨gk-1,by omega⟩;obtain⟨x,z⟩:∃x,ws[j]?=some x:=⟨_,aQ (by have:=W.out;omega)⟩;obtain⟨a2,b,off,rfl,s⟩:=am.out j x z;have D:=aJ s;have X:=aa z;have s:(0:Int)<((j+1:Nat):Int):=(by omega);clear z ad;by_cases E:x=0
   ·subst E;go_wp2_with fail;go_roundg j
    case rel=>exact⟨rfl,by omega,fun i y hi T=>by
     by_cases a0:i=j;·subst a0;rw[X.out]at T;exact(Option.some.inj T).symm
     ·exact J.out i y (by omega) T,rfl⟩
    case measure=>omega
   ·have s:(x==0)=false:=(by simpa using E);have I:=aa (V.out (j+1) ab J.out (.inr ⟨x,X.out,E⟩));clear E;go_wp2_with (first|(go_at_call 193;refine(U.out (j+1) ab _ I.out).mono ?_;rintro e w1 ⟨y,rfl,t,u⟩)|fail)
    go_ret;exact⟨y,rfl,t,u⟩
theorem cG {lo:Nat}{w:World}{v:Nat}{x:Value}(h:aB lo w v x):∃a cap,x=.slice a (ar aj v).length cap∧(ar aj v).length≤cap∧bq w a (ar aj v):=by
 obtain⟨a,cap,s,t,u⟩:=h;exact⟨a,cap,s,t,u.b1 (wi v)⟩
theorem jl {lo v:Nat}{x:Value}{w:World}(h:aB lo w v x)(t:(ar aj v).length≤1048576) :
  Calls Tryz.prog 129 #[x] w fun e s=>∃y,e=.returned y∧aB w.heap.size s v y∧ae w s:=by
 obtain⟨a,cap,rfl,s,u⟩:=cG h
 have q:=kH a cap (ar aj v) w u t s
 rw[ff aR,bG]at q
 exact q
theorem ko (a:Option Addr)(n cap:Nat)(w:World)(t:n≤1048576):Calls Tryz.prog 131 #[.slice a n cap] w fun e s=>e=.returned (.bool (decide (n≤64)))∧w=s:=by
 by_cases h:n≤64
 ·rw[bM h];have q:(n:Int)≤64:=by omega
  go_enter Tryz.func131,Tryz.ntmps131;go_wp2_with fail;go_ret;exact⟨rfl,rfl⟩
 ·rw[bQ h];have q:¬(n:Int)≤64:=by omega
  go_enter Tryz.func131,Tryz.ntmps131;go_wp2_with fail;go_ret;exact⟨rfl,rfl⟩
theorem kD (n:Nat)(w:World)(I:n<2 ^ 64) :
  Calls Tryz.prog 192 #[.int .u64 (n:Int)] w fun e u=>∃x,e=.returned x∧aB w.heap.size u n x∧ae w u:=by
 have t:bq (w.alloc (.cells #[.int .u64 (n:Int)] 56)) (some ⟨w.heap.size,0,none⟩) [(n:Int)]:=fun i x s=>by
  cases i with
  |zero=>simp at s;subst s;exact⟨by omega,_,0,rfl,by simp[go_sem]⟩
  |succ i=>simp at s
 have q:=kH (some ⟨w.heap.size,0,none⟩) 1 [(n:Int)] _ t (by show 1≤1048576;decide) (aI 1)
 rw[show(az aj [(n:Int)]).toNat=n by show((n:Int)+aj*0).toNat=n;omega]at q
 have z:=aa q
 clear q t
 go_enter Tryz.func192,Tryz.ntmps192
 go_wp2_with (first|(go_at_call 129;refine z.out.mono ?_;rintro e w1 ⟨x,rfl,E,D⟩)|fail)
 go_ret
 exact⟨x,rfl,E.le (by simp),((ae.refl w).alloc _).trans D⟩
theorem qc (a:Option Addr)(cap:Nat)(ws:List Int)(w:World)(h:bq w a ws)(Q:ws.length≤1048576)(N:ws.length≤cap)(u:(ar aj (az aj ws).toNat).length≤64) :
  Calls Tryz.prog 264 #[.slice a ws.length cap] w fun e D=>∃x,e=.returned (.tuple #[x,.bool true])∧aB w.heap.size D (az aj ws).toNat x∧ae w D:=by
 have t:=aa (kH a cap ws w h Q N)
 obtain⟨v,z⟩:∃v,v=(az aj ws).toNat:=⟨_,rfl⟩
 rw[←z]at u t ⊢
 clear z h
 go_enter Tryz.func264,Tryz.ntmps264
 go_wp2_with (first|(go_at_call 129;refine t.out.mono ?_;rintro e w1 ⟨x,rfl,s,O⟩)|fail)
 have I:=aa s
 obtain⟨a,J,rfl,t,-⟩:=cG s
 have q:=ko a _ J w1 (show(ar aj v).length≤1048576 by omega)
 rw[bM u]at q
 have E:=aa q
 clear s q
 go_wp2_with (first|(go_at_call 131;refine E.out.mono ?_;rintro e s ⟨rfl,rfl⟩)|fail)
 go_ret2
 exact⟨_,rfl,I.out,O⟩
theorem oO {lo lo' s v:Nat}{x y:Value}{w:World}(T:aB lo w s x)(U:aB lo' w v y)(ah:(ar aj s).length≤64)(al:(ar aj v).length≤64) :
  Calls Tryz.prog 261 #[x,y] w fun e V=>∃u E w1,e=.returned (.tuple #[u,E,.bool true])∧aB w.heap.size w1 s u∧ae w w1∧ae w1 V∧aB w1.heap.size V v E:=by
 have O:=aa T
 have W:=aa U
 clear T U
 go_enter Tryz.func261,Tryz.ntmps261
 go_wp2_with (first
  |(go_at_call 129;refine(jl O.out (by omega)).mono ?_;rintro e w1 ⟨u,rfl,T,Q⟩;have t:=aa T;clear T O)
  |(go_at_call 129;have am:=t;clear am;refine(jl (W.out.U Q) (by omega)).mono ?_;rintro e av ⟨E,rfl,u,ad⟩;have N:=aa u;clear u)
  |fail)
 obtain⟨X,Z,rfl,-,-⟩:=cG t.out
 obtain⟨Y,ab,rfl,-,-⟩:=cG N.out
 have z:=fun u=>ko X _ Z u (show(ar aj s).length≤1048576 by omega)
 have D:=fun u=>ko Y _ ab u (show(ar aj v).length≤1048576 by omega)
 simp only[bM ah]at z
 simp only[bM al]at D
 have I:=aa z
 have J:=aa D
 clear z D
 go_wp2_with (first
  |(go_at_call 131;refine(I.out _).mono ?_;rintro e aw ⟨rfl,rfl⟩;clear I)
  |(go_at_call 131;refine(J.out _).mono ?_;rintro e ax ⟨rfl,rfl⟩;clear J)
  |fail)
 go_ret3
 exact⟨_,_,w1,rfl,t.out,Q,ad,N.out⟩
theorem kF {lo lo' u v:Nat}{x y:Value}{w:World}(Q:aB lo w u x)(T:aB lo' w v y)(N:(ar aj u).length≤64)(O:(ar aj v).length≤64) :
  Calls Tryz.prog 261 #[x,y] w fun e z=>∃s t,e=.returned (.tuple #[s,t,.bool true])∧aB w.heap.size z u s∧aB w.heap.size z v t∧ae w z:=by
 refine(oO Q T N O).mono ?_
 rintro e u ⟨s,t,w1,rfl,I,D,E,J⟩
 exact⟨s,t,rfl,I.U E,J.le D.size,D.trans E⟩
theorem mP {g:Nat}(cap:Nat)(ws:List Int)(w:World)(h:bO w g ws)(z:aM aj ws)(u:ws.length≤1048576)(t:ws.length≤cap)(D:(ar aj (az aj ws).toNat).length≤64) :
  Calls Tryz.prog 264 #[.slice (some ⟨g,0,none⟩) ws.length cap] w fun e s=>∃x,e=.returned (.tuple #[x,.bool true])∧aB w.heap.size s (az aj ws).toNat x∧ae w s:=qc _ cap ws w (h.b1 z) u t D
theorem xo {n:Nat}(h:n≤16):dG (ei n)=true:=gQ.2 ⟨by rw[jm];exact h,fun x s=>by rw[jm];exact vJ.1 s,wC n⟩
theorem xq (n:Nat)(h:n≤16)(w:World) :
  Calls Tryz.prog 102 #[.int .i64 (n:Int)] w fun e U=>e=.returned (.tuple #[.slice (some ⟨w.heap.size,0,none⟩) n n,.bool true])∧bF U w.heap.size (ei n)∧ae w U:=by
 obtain⟨Z,u,ab,ad,ah⟩:=info_parts ja
 go_enter Tryz.func102,Tryz.ntmps102
 go_wp2_with (first
  |(at_make;refine wpList_make_full _ rfl _ _ 22 rfl w.heap.size 3 Z (.int .i64 0) 1 Tryz.underlying22 u ab ad .i64 .i64 (n:Int) (n:Int) n rfl rfl rfl rfl (by rw[ah];omega) (by unfold maxLen;omega) (by simp) ?_;intro w1 T t)
  |fail)
 have V:=aa (pF T)
 have Q:ae w w1:=⟨t.os,t.tape,t.output,t.size,fun i hi=>t.block i hi (by simp)⟩
 have W:=aa Q
 clear T t Q
 go_loopg [5,16] n (fun gk t t wr=>∃(d:Nat) (vs:List Int),d+gk=n∧t=.int .i64 (d:Int)∧vs.length=n∧(∀(j:Nat) (x:Int),j<d→vs[j]?=some x→x=(j:Int))∧bF wr w.heap.size vs∧af (fun k=>k=w.heap.size) w1 wr)
 case atStart=>exact⟨0,_,by omega,rfl,by simp,fun j x u=>by omega,V.out,af.refl _ _⟩
 case round=>
  obtain⟨d,vs,al,rfl,T,U,t,Q⟩:=hrel;have D:=aa t;have J:=aa Q;have s:=aa T;have N:=aa U;clear t Q T U;by_cases I:d<n
  ·obtain⟨y,z⟩:∃b,vs[d]?=some b:=⟨_,aQ (by rw[s.out];exact I)⟩;have t:=D.out.cell z;have t:=D.out.frozen d;clear z;go_wp2_with fail;go_roundg (gk-1)
   case rel=>
    refine⟨d+1,vs.set d (d:Int),by omega,by simp,by rw[de,s.out],fun j x u E=>?_,D.out.set d _ (by rw[s.out];exact I),J.out.setCell (p:=⟨w.heap.size,d,none⟩) (.inl rfl) _⟩;by_cases e:j=d
    ·subst e;rw[jA (by rw[s.out];exact I)]at E;exact(Option.some.inj E).symm
    ·rw[fV (fun h=>e h.symm)]at E;exact N.out j x (by omega) E
   case measure=>omega
  ·have O:vs=ei n:=by
    apply List.ext_getElem?;intro j;by_cases u:j<n
    ·obtain⟨y,z⟩:∃b,vs[j]?=some b:=⟨_,aQ (by rw[s.out];exact u)⟩;have:=N.out j y (by omega) z;rw[z,this];unfold ei;rw[iB,ng u];rfl
    ·rw[eT (by rw[s.out];omega),eT (by rw[jm];omega)]
   have t:=W.out.new J.out (fun k s=>by omega);have s:=D.out;rw[O]at s;have Y:=aa s;have X:=aa t;clear s t O;go_wp2_with fail;go_ret2;exact⟨rfl,Y.out,X.out⟩
theorem wU (n:Nat)(h:n≤16)(w:World) :
  Calls Tryz.prog 66 #[.int .i64 (n:Int)] w fun e t=>ae w t∧∃ob s,e=.returned (.tuple #[.pointer (some ⟨ob,0,none⟩),.int .u8 0])∧dm s t ob (ei n)∧∀k,s k→w.heap.size≤k:=by
 have O:=aa (fun(t:World)=>xq n h t)
 have E:=fun(t z:World) (u:bF z t.heap.size (ei n))=>by
  have:=wV (some ⟨t.heap.size,0,none⟩) n (ei n) z u.d' (by rw[jm];omega);simp only[jm,xo h,if_true]at this;exact this
 have N:=aa E
 clear E
 go_enter Tryz.func66,Tryz.ntmps66
 go_wp2_with fail
 refine(O.out _).mono ?_
 rintro e w1 ⟨rfl,u,D⟩
 have J:=aa (N.out _ _ u)
 clear u
 go_wp2_with fail
 refine J.out.mono ?_
 rintro e t ⟨Q,ob,s,rfl,t,hF⟩
 have I:=aa t
 clear t
 go_wp2_with fail
 go_ret2
 exact⟨D.trans Q,ob,s,rfl,I.out,fun k t=>by have:=hF k t;have:=D.size;omega⟩
end Go.Proofs.YtafkamlhimkbmaaGreat
