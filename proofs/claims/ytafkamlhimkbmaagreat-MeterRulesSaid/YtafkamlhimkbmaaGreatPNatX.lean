/-
  nat.Add.
-/
import Derived.Test.YtafkamlhimkbmaaGreatPOrderN
import Derived.Lib.Mul64
import Derived.Laws.Bits64b
namespace Go.Proofs.YtafkamlhimkbmaaGreat
set_option maxRecDepth 1000000
set_option maxHeartbeats 8000000
set_option linter.unusedSimpArgs false
set_option linter.unusedVariables false
open Go.RowKit
theorem lk (x y c:Int)(u:0≤x)(z:0≤y)(t:0≤c)(s:c≤1)(w:World):(callFunc 263 #[.int .u64 x,.int .u64 y,.int .u64 c]).run Tryz.prog w=.ok (.value (.tuple #[.int .u64 ((x+y+c)%18446744073709551616),.int .u64 ((x+y+c) / 18446744073709551616)])) w:=by
 rw[run_callFunc_extern Tryz.func263 (by kernel_rfl) (by kernel_rfl) (by kernel_rfl) (e:=add64Entry) (by kernel_rfl),run_add64 x y c u z t s];rfl
theorem nd (x y c:Int)(z:0≤x)(D:0≤y)(u:0≤c)(t:c≤1):∃s k:Int,(∀w,(callFunc 263 #[.int .u64 x,.int .u64 y,.int .u64 c]).run Tryz.prog w=.ok (.value (.tuple #[.int .u64 s,.int .u64 k])) w)∧s=(x+y+c)%aj∧k=(x+y+c) / aj:=
 ⟨_,_,lk x y c z D u t,rfl,rfl⟩
theorem gr {w:World}{a:Option Addr}{ws:List Int}(h:bq w a ws)(i:Nat)(hi:i<ws.length):∃x b off,ws[i]?=some x∧0≤x∧x<2 ^ 64∧a=some ⟨b,off,none⟩∧w.cell? ⟨b,off+i,none⟩=some (.int .u64 x):=by
 obtain⟨x,t⟩:∃x,ws[i]?=some x:=⟨_,aQ hi⟩;obtain⟨s,b,off,u,z⟩:=h i x t;exact⟨x,b,off,t,s.1,s.2,u,z⟩
theorem wa {lo lo' D v:Nat}{x y:Value}{w:World}(cj:aB lo w D x)(cl:aB lo' w v y)(dl:(ar aj D).length≤32)(dB:(ar aj v).length≤32) :
  Calls Tryz.prog 260 #[x,y] w fun e s=>∃u,e=.returned (.tuple #[u,.bool true])∧aB w.heap.size s (D+v) u∧ae w s:=by
 obtain⟨d1,c',d2,d3,d5⟩:=info_parts jK
 -- the greater one first
 have main:∀t E:Nat,t+E=D+v→(ar aj E).length≤(ar aj t).length→(ar aj t).length≤32 →
   ((∃J:¬((ar aj t).length:Int)<((ar aj E).length:Int),Calls Tryz.prog 261 #[x,y] w fun e s=>∃ab ad,e=.returned (.tuple #[ab,ad,.bool true])∧aB w.heap.size s t ab∧aB w.heap.size s E ad∧ae w s) ∨
    (∃J:((ar aj E).length:Int)<((ar aj t).length:Int),Calls Tryz.prog 261 #[x,y] w fun e s=>∃ab ad,e=.returned (.tuple #[ab,ad,.bool true])∧aB w.heap.size s E ab∧aB w.heap.size s t ad∧ae w s)) →
   Calls Tryz.prog 260 #[x,y] w fun e s=>∃u,e=.returned (.tuple #[u,.bool true])∧aB w.heap.size s (D+v) u∧ae w s:=by
  intro t E ds a7 a5 b6
  have a':az aj (eM aj (ar aj t).length (ar aj t) (ar aj E) 0)=((D+v:Nat):Int):=by
   rw[qO aj _ _ _ _ (aI _) a7,ff aR,ff aR];omega
  have bi:=qN aR (ar aj t).length (ar aj t) (ar aj E) 0 (by omega) (ft aR _) (ft aR _)
  have ax:=qM aj (ar aj t).length (ar aj t) (ar aj E) 0
  have b5:D+v<aj ^ 34:=by
   have X:=fs aR a5;have al:=fs aR (dp a7 a5);have d9:aj ^ 32+aj ^ 32≤aj ^ 34:=(by decide);omega
  have cb:(ar aj (D+v)).length≤64:=dp (eh aR b5) (by decide)
  obtain⟨R,av⟩:∃R,R=eM aj (ar aj t).length (ar aj t) (ar aj E) 0:=⟨_,rfl⟩
  have a6:([]:List Int)++eM aj ((ar aj t).length-0) ((ar aj t).drop 0) ((ar aj E).drop 0) 0=R:=by rw[av];rfl
  rw[←av]at a' bi ax
  clear av b5 ds
  have b4:∀(ah:World) (g cap:Nat) (ws:List Int),ws=R→bO ah g ws→ws.length≤cap→Calls Tryz.prog 264 #[.slice (some ⟨g,0,none⟩) ws.length cap] ah fun e s=>∃u,e=.returned (.tuple #[u,.bool true])∧aB ah.heap.size s (D+v) u∧ae ah s:=fun ah g cap ws he dk Y=>by
   subst he;have q:=mP cap ws ah dk bi (by omega) Y (by rw[a',bG];exact cb);rw[a',bG]at q;exact q
  obtain⟨us,a0⟩:∃us,us=ar aj t:=⟨_,rfl⟩
  obtain⟨vs,ba⟩:∃vs,vs=ar aj E:=⟨_,rfl⟩
  have ch:aM aj us:=by rw[a0];exact ft aR _
  have ci:aM aj vs:=by rw[ba];exact ft aR _
  have am:(∃J:¬(us.length:Int)<(vs.length:Int),Calls Tryz.prog 261 #[x,y] w fun e s=>∃O U Q V,e=.returned (.tuple #[.slice O us.length U,.slice Q vs.length V,.bool true])∧bq s O us∧bq s Q vs∧ae w s) ∨
    (∃J:(vs.length:Int)<(us.length:Int),Calls Tryz.prog 261 #[x,y] w fun e s=>∃O U Q V,e=.returned (.tuple #[.slice Q vs.length V,.slice O us.length U,.bool true])∧bq s O us∧bq s Q vs∧ae w s):=by
   rw[a0,ba]
   rcases b6 with⟨J,Y⟩|⟨J,Y⟩
   ·refine .inl ⟨J,Y.mono ?_⟩;rintro e w1 ⟨ab,ad,rfl,X,al,z⟩;obtain⟨O,U,rfl,-,b0⟩:=cG X;obtain⟨Q,V,rfl,-,b1⟩:=cG al;exact⟨O,U,Q,V,rfl,b0,b1,z⟩
   ·refine .inr ⟨J,Y.mono ?_⟩;rintro e w1 ⟨ab,ad,rfl,X,al,z⟩;obtain⟨Q,V,rfl,-,b1⟩:=cG X;obtain⟨O,U,rfl,-,b0⟩:=cG al;exact⟨O,U,Q,V,rfl,b0,b1,z⟩
  rw[←a0,←ba]at a6 a7
  rw[←a0]at a5 ax
  clear b6 a' cb a0 ba bi
  obtain⟨N,a8⟩:∃n,n=us.length:=⟨_,rfl⟩
  obtain⟨bw,bh⟩:∃n,n=vs.length:=⟨_,rfl⟩
  rw[←a8,←bh]at am a7
  rw[←a8]at a5 ax a6
  have cv:=aa a8
  have b2:=aa bh
  have cy:=aa b4
  have cp:=aa a6
  have s:=aa ax
  have s:=aa ch
  have s:=aa ci
  have s:((N:Int)+1)=((N+1:Nat):Int):=by omega
  have t:=aa s
  clear b4 a6 ax ch ci a8 bh s
  rcases am with⟨J,am⟩|⟨J,am⟩
  all_goals
   have co:=aa am
   clear am
   go_enter Tryz.func260,Tryz.ntmps260
   go_wp2_with (first
    |(go_at_call 261;refine co.out.mono ?_;rintro e w1 ⟨O,U,Q,V,rfl,s,t,b8⟩;have b3:=aa s;have cB:=aa t;clear s t)
    |(at_make;refine wpList_make_full _ rfl _ _ 103 rfl w1.heap.size 56 d1 (.int .u64 0) 1 Tryz.underlying103 c' d2 d3 .i64 .i64 _ _ (N+1) rfl rfl (by simp) (by simp) (by rw[d5];omega) (by unfold maxLen;omega) (by simp) ?_;intro cn cc aw)
    |fail)
   have cx:=aa (kM cc)
   have bd:ae w1 cn:=⟨aw.os,aw.tape,aw.output,aw.size,fun i hi=>aw.block i hi (by simp)⟩
   have s:=b8.size
   have s:=bd.size
   clear cc aw
   go_wp2_with fail
   go_loopg [8,9,10,11,34] N (fun gk t s s s s wr=>∃(i:Nat) (c:Int) (rs:List Int),s=.int .i64 (i:Int)∧t=.int .u64 c∧i+gk=N∧0≤c∧c≤1∧rs.length=N+1∧rs.take i++eM aj (N-i) (us.drop i) (vs.drop i) c=R∧bO wr w1.heap.size rs∧af (fun k=>k=w1.heap.size) cn wr)
   case atStart=>exact⟨0,0,List.replicate (N+1) 0,rfl,rfl,by omega,by omega,by omega,by simp,by rw[List.take_zero];exact cp.out,cx.out,af.refl _ _⟩
   case round=>
    obtain⟨i,c,rs,rfl,rfl,O,a3,a4,E,t,av,s⟩:=hrel;have bb:=aa t;have T:=aa av;have a2:=aa s;have I:=aa E;clear t av s E;have ca:ae w1 wr:=bd.new a2.out (fun k z=>by omega);by_cases hi:i<N
    ·obtain⟨p,c0,s,ay,a9,cd,c3,b7⟩:=gr (b3.out.U ca) i (by rw[←cv.out];exact hi);subst c3;have s:=aJ b7;have c1:=T.out.frozen i;have dj:=T.out.lt;obtain⟨u,W⟩:∃u,rs[i]?=some u:=⟨_,aQ (by rw[I.out];omega)⟩;have c2:=T.out.cell W;have d6:(i:Int)<(N:Int):=(by omega);have s:c0≠w1.heap.size:=fun e=>(by have:=aJ b7;subst e;have:=(b3.out i p ay).2;obtain⟨b,o,e,Y⟩:=this;cases e;have:=aJ Y;simp at this);by_cases c7:i<bw
     ·obtain⟨q,s,t,ce,cf,db,c4,c5⟩:=gr (cB.out.U ca) i (by rw[←b2.out];exact c7);subst c4;have s:=aJ c5;have d7:(i:Int)<(bw:Int):=(by omega);obtain⟨a1,k,bn,hs,z⟩:=nd p q c a9 cf a3 a4;have Z:=nf hi bb.out;rw[kj ay,kj ce,←hs,←z]at Z;have be:0≤k∧k≤1:=(by rw[z];exact ll ⟨a9,by show p<2 ^ 64;exact cd⟩ ⟨cf,db⟩ ⟨a3,a4⟩);have bc:=aa Z;have cD:=aa W;clear Z hs z ay ce W;obtain⟨bt,bv⟩:=be;go_wp2_with (simp only[bn])
      go_roundg (gk-1)
      case rel=>exact⟨i+1,k,rs.set i a1,congrArg (Value.int .i64) (by omega),rfl,by omega,bt,bv,by rw[de,I.out],by rw[ju (by rw[I.out];omega)];exact bc.out,T.out.set i a1 (by rw[I.out];omega),a2.out.setCell (Or.inl rfl) _⟩
      case measure=>omega
     ·have d7:¬(i:Int)<(bw:Int):=(by omega);obtain⟨a1,k,bn,hs,z⟩:=nd p 0 c a9 (Int.le_refl 0) a3 a4;have Z:=nf hi bb.out;rw[kj ay,nG (by rw[←b2.out];omega),←hs,←z]at Z;have be:0≤k∧k≤1:=(by rw[z];exact ll ⟨a9,by show p<2 ^ 64;exact cd⟩ ⟨Int.le_refl 0,by decide⟩ ⟨a3,a4⟩);have bc:=aa Z;have cD:=aa W;clear Z hs z ay W;obtain⟨bt,bv⟩:=be;go_wp2_with (simp only[bn])
      go_roundg (gk-1)
      case rel=>exact⟨i+1,k,rs.set i a1,congrArg (Value.int .i64) (by omega),rfl,by omega,bt,bv,by rw[de,I.out],by rw[ju (by rw[I.out];omega)];exact bc.out,T.out.set i a1 (by rw[I.out];omega),a2.out.setCell (Or.inl rfl) _⟩
      case measure=>omega
    ·have c8:i=N:=(by omega);subst c8;have d6:¬(i:Int)<(i:Int):=(by omega);have c1:=T.out.frozen i;have dj:=T.out.lt;obtain⟨u,W⟩:∃u,rs[i]?=some u:=⟨_,aQ (by rw[I.out];omega)⟩;have c2:=T.out.cell W
     have u:rs.set i c=R:=by
      have X:=bb.out;rw[Nat.sub_self]at X;rw[←X];show rs.set i c=rs.take i++[c];have al:=ju (l:=rs) (i:=i) (y:=c) (by rw[I.out];omega);rw[←al,fm (by rw[de,I.out];omega)]
     have t:(rs.set i c).length=i+1:=(by rw[de,I.out]);have E:=T.out.set i c (by rw[I.out];omega);have s:=cy.out _ _ (i+1) _ u E (by rw[t];exact aI _);rw[t]at s;have cz:=aa s;clear u t E s W;go_wp2_with (first|(go_at_call 264;refine cz.out.mono ?_;rintro e s ⟨d8,rfl,d0,da⟩)|fail)
     go_ret2;have b9:ae w (wr.setCell ⟨w1.heap.size,i,none⟩ (.int .u64 c)):=b8.trans (bd.new (a2.out.setCell (Or.inl rfl) _) (fun k z=>by omega));exact⟨d8,rfl,d0.le b9.size,b9.trans da⟩
 rcases Nat.lt_or_ge (ar aj D).length (ar aj v).length with J|c6
 ·refine main v D (ka v D) (qS J) dB (.inr ⟨by omega,?_⟩);exact kF cj cl (by omega) (by omega)
 ·refine main D v rfl c6 dl (.inl ⟨by omega,?_⟩);exact kF cj cl (by omega) (by omega)
theorem ky (a:Nat)(s:a<18446744073709551616):bits .and .u64 (a:Int) 4294967295=((a%4294967296:Nat):Int):=by
 have h:=bits_and_u64_nat a 4294967295 s (by omega);rw[show a &&& 4294967295=a%4294967296 from Nat.and_two_pow_sub_one_eq_mod a 32]at h;exact h
theorem sh (a:Nat):(a:Int) / 4294967296=((a / 4294967296:Nat):Int):=by omega
theorem si (a b:Nat):(a:Int)*(b:Int)=((a*b:Nat):Int):=(Int.natCast_mul a b).symm
theorem sg (a b:Nat):(a:Int)+(b:Int)=((a+b:Nat):Int):=(Int.natCast_add a b).symm
theorem iz (a:Nat)(s:a<18446744073709551616):IntKind.u64.wrap (a:Int)=(a:Int):=by rw[IntKind.wrap_u64];omega
theorem As (a:Nat):IntKind.u64.wrap (a:Int)=((a%18446744073709551616:Nat):Int):=by rw[IntKind.wrap_u64];omega
theorem vX (x y:Nat)(t:x<18446744073709551616)(u:y<18446744073709551616)(w:World):Calls Tryz.prog 262 #[.int .u64 (x:Int),.int .u64 (y:Int)] w fun e T=>e=.returned (.tuple #[.int .u64 ((x*y / 18446744073709551616:Nat):Int),.int .u64 ((x*y%18446744073709551616:Nat):Int)])∧w=T:=by
 obtain⟨I,s,O,Q⟩:=Lib.mul64_hi x y t u;have T:=Lib.half_mul_le (a:=x / 4294967296) (b:=y / 4294967296) (by omega) (by omega);have T:=Lib.half_mul_le (a:=x / 4294967296) (b:=y%4294967296) (by omega) (by omega);have T:=Lib.half_mul_le (a:=x%4294967296) (b:=y / 4294967296) (by omega) (by omega);have z:x / 4294967296*(y / 4294967296)<18446744073709551616:=by omega
 have D:x / 4294967296*(y%4294967296)<18446744073709551616:=by omega
 have E:x%4294967296*(y / 4294967296)<18446744073709551616:=by omega
 have N:x / 4294967296*(y / 4294967296)+(x / 4294967296*(y%4294967296)+x%4294967296*(y%4294967296) / 4294967296) / 4294967296<18446744073709551616:=by omega
 have J:x / 4294967296*(y / 4294967296)+(x / 4294967296*(y%4294967296)+x%4294967296*(y%4294967296) / 4294967296) / 4294967296+((x / 4294967296*(y%4294967296)+x%4294967296*(y%4294967296) / 4294967296)%4294967296+x%4294967296*(y / 4294967296)) / 4294967296<18446744073709551616:=by omega
 go_enter Tryz.func262,Tryz.ntmps262;go_wp2;simp only[ky x t,ky y u,sh,si,sg,iz _ I,iz _ D,iz _ s,ky _ s,iz _ E,iz _ O,iz _ z,iz _ N,iz _ J,As (x*y)];rw[Q];go_ret2;exact⟨rfl,rfl⟩
theorem vY {x y o c:Int}(I:0≤x)(ab:x<2 ^ 64)(J:0≤y)(ad:y<2 ^ 64)(E:0≤o)(Z:o<2 ^ 64)(D:0≤c)(Y:c<2 ^ 64) :
  ∃h l U u V z:Int,(∀w,Calls Tryz.prog 262 #[.int .u64 x,.int .u64 y] w fun e ah=>e=.returned (.tuple #[.int .u64 h,.int .u64 l])∧w=ah) ∧
   (∀w,(callFunc 263 #[.int .u64 l,.int .u64 o,.int .u64 0]).run Tryz.prog w=.ok (.value (.tuple #[.int .u64 U,.int .u64 u])) w) ∧
   (∀w,(callFunc 263 #[.int .u64 U,.int .u64 c,.int .u64 0]).run Tryz.prog w=.ok (.value (.tuple #[.int .u64 V,.int .u64 z])) w) ∧
   V=(x*y+o+c)%aj∧h+u+z=(x*y+o+c) / aj∧0≤h+u∧h+u<18446744073709551616∧0≤h+u+z∧h+u+z<18446744073709551616:=by
 obtain⟨s,rfl⟩:=Int.eq_ofNat_of_zero_le I
 obtain⟨t,rfl⟩:=Int.eq_ofNat_of_zero_le J
 obtain⟨z,N,O,Q,T⟩:=vZ (b:=aj) (x:=(s:Int)) (y:=(t:Int)) (o:=o) (c:=c) ⟨I,ab⟩ ⟨J,ad⟩ ⟨E,Z⟩ ⟨D,Y⟩
 have X:=fun w=>vX s t (by omega) (by omega) w
 have u:((s*t:Nat):Int)=(s:Int)*(t:Int):=Int.natCast_mul s t
 rw[←u]at z N O Q T ⊢
 generalize s*t=P at *
 have W:(aj:Int)=18446744073709551616:=rfl
 rw[W]at N O Q T ⊢
 have t:(0:Int)≤((P%18446744073709551616:Nat):Int):=by omega
 have s:=fun w=>lk ((P%18446744073709551616:Nat):Int) o 0 t E (by omega) (by omega) w
 have t:=fun w=>lk ((((P%18446744073709551616:Nat):Int)+o+0)%18446744073709551616) c 0 (by omega) D (by omega) (by omega) w
 exact⟨_,_,_,_,_,_,X,s,t,by omega,by omega,by omega,by omega,by omega,by omega⟩
theorem wv {lo lo' D v:Nat}{x y:Value}{w:World}(ce:aB lo w D x)(J:aB lo' w v y)(be:(ar aj D).length≤32)(bh:(ar aj v).length≤32) :
  Calls Tryz.prog 246 #[x,y] w fun e E=>∃s,e=.returned (.tuple #[s,.bool true])∧aB w.heap.size E (D*v) s∧ae w E:=by
 obtain⟨d9,dl,ea,eb,ec⟩:=info_parts jK
 have b6:D*v<aj ^ 64:=by
  have a':=fs aR be;have ba:=fs aR bh;have c3:aj ^ 64=aj ^ 32*aj ^ 32:=by rw[←Nat.pow_add]
  rw[c3];exact Nat.mul_lt_mul'' a' ba
 have b9:(ar aj (D*v)).length≤64:=eh aR b6
 have b5:∀(I:World) (g n:Nat) (ws:List Int),ws.length=n→n≤64→az aj ws=((D*v:Nat):Int)→aM aj ws→bO I g ws→Calls Tryz.prog 264 #[.slice (some ⟨g,0,none⟩) n n] I fun e E=>∃s,e=.returned (.tuple #[s,.bool true])∧aB I.heap.size E (D*v) s∧ae I E:=fun I g n ws c3 d7 Z ax d7=>by
  have q:=mP n ws I d7 ax (by omega) (by omega) (by rw[Z,bG];exact b9);rw[Z,bG,c3]at q;exact q
 obtain⟨us,ay⟩:∃us,us=ar aj D:=⟨_,rfl⟩
 obtain⟨vs,a0⟩:∃vs,vs=ar aj v:=⟨_,rfl⟩
 have cd:az aj us*az aj vs=((D*v:Nat):Int):=by rw[ay,a0,ff aR,ff aR];exact(Int.natCast_mul D v).symm
 have bb:Calls Tryz.prog 261 #[x,y] w fun e E=>∃W al X am,e=.returned (.tuple #[.slice W us.length al,.slice X vs.length am,.bool true])∧bq E W us∧bq E X vs∧ae w E:=by
  rw[ay,a0];refine(kF ce J (by omega) (by omega)).mono ?_;rintro e w1 ⟨eR,eS,rfl,a',ba,O⟩;obtain⟨W,al,rfl,-,el⟩:=cG a';obtain⟨X,am,rfl,-,em⟩:=cG ba;exact⟨W,al,X,am,rfl,el,em,O⟩
 rw[←ay]at be
 rw[←a0]at bh
 clear ay a0 b6 b9 ce J
 obtain⟨z,av⟩:∃n,n=us.length:=⟨_,rfl⟩
 obtain⟨t,aw⟩:∃n,n=vs.length:=⟨_,rfl⟩
 rw[←av]at be
 rw[←aw]at bh
 rw[←av,←aw]at bb
 have bv:=aa av
 have bw:=aa aw
 have cp:=aa b5
 have cx:=aa cd
 have cj:=aa bb
 clear b5 cd av aw bb
 go_enter Tryz.func246,Tryz.ntmps246
 go_wp2_with (first
  |(go_at_call 261;refine cj.out.mono ?_;rintro e w1 ⟨W,al,X,am,rfl,E,av,b7⟩;have cy:=aa E;have cz:=aa av;clear E av)
  |(at_make;refine wpList_make_full _ rfl _ _ 103 rfl w1.heap.size 56 d9 (.int .u64 0) 1 Tryz.underlying103 dl ea eb .i64 .i64 _ _ (z+t) rfl rfl (by simp) (by simp) (by rw[ec];omega) (by unfold maxLen;omega) (by simp) ?_;intro bn ca T)
  |fail)
 have cn:=aa (kM ca)
 have bc:ae w1 bn:=⟨T.os,T.tape,T.output,T.size,fun i hi=>T.block i hi (by simp)⟩
 have E:=b7.size
 have E:=bc.size
 clear ca T
 go_wp2_with fail
 go_loopg [8,9,10,11,12,13,14,15,33] z (fun gk E E ci en er et ev ez E wr=>∃(i:Nat) (rs:List Int),E=.int .i64 (i:Int)∧i+gk=z∧rs.length=z+t∧aM aj rs∧az aj rs=az aj (us.take i)*az aj vs∧(∀k s,i+t≤k→rs[k]?=some s→s=0)∧bO wr w1.heap.size rs∧af (fun k=>k=w1.heap.size) bn wr)
 case atStart=>exact⟨0,List.replicate (z+t) 0,rfl,by omega,by simp,Ao (by decide) _,by rw[mV,List.take_zero];show(0:Int)=0*_;rw[Int.zero_mul],fun k s O u=>List.eq_of_mem_replicate (dy u),cn.out,af.refl _ _⟩
 case round=>
  obtain⟨i,ah,rfl,dk,X,W,al,ad,E,T⟩:=hrel;have a3:=aa E;have a5:=aa T;have bt:=aa X;have b2:=aa al;have cB:=aa ad;have b0:=aa W;clear E T X al ad W;have bd:ae w1 wr:=bc.new a5.out (fun k O=>by omega);by_cases hi:i<z
  ·obtain⟨p,E,T,cb,d2,d3,c8,da⟩:=gr (cy.out.U bd) i (by rw[←bv.out];exact hi);subst c8;have E:=aJ da;have ed:(i:Int)<(z:Int):=(by omega);have cl:=aa cb;clear cb;obtain⟨G,c6⟩:∃G,G=gk:=⟨_,rfl⟩;rw[←c6]at dk;go_wp2_with fail;obtain⟨E,a1⟩:∃I,I=wr:=⟨_,rfl⟩;rw[←a1]at a3 a5 bd;go_loopg [10,11,12,13,14,15,40] t (fun I ci en er et ev ez T E=>∃(j:Nat) (c:Int) (rs:List Int),T=.int .i64 (j:Int)∧ci=.int .u64 c∧j+I=t∧0≤c∧c<2 ^ 64∧rs.length=z+t∧aM aj rs∧az aj rs+(aj:Int) ^ (i+j)*c=az aj ah+(aj:Int) ^ i*(p*az aj (vs.take j))∧(∀k s,i+t≤k→rs[k]?=some s→s=0)∧bO E w1.heap.size rs∧af (fun k=>k=w1.heap.size) bn E)
   case atStart=>exact⟨0,0,ah,rfl,rfl,by omega,by omega,by decide,bt.out,b0.out,by rw[List.take_zero,Int.mul_zero];show _=_+_*(p*0);rw[Int.mul_zero,Int.mul_zero],cB.out,by rw[←a1];exact a3.out,by rw[←a1];exact a5.out⟩
   case round=>
    obtain⟨j,c,rs,rfl,rfl,W,b3,b4,T,ax,Z,u,E,I⟩:=hrel;have N:=aa E;have a4:=aa I;have Q:=aa T;have b1:=aa Z;have a7:=aa u;have a2:=aa ax;clear E I T Z u ax a1;have d1:ae w1 wr:=bc.new a4.out (fun k O=>by omega);have E:=N.out.lt;by_cases dB:j<t
    ·obtain⟨q,E,I,cc,d5,d6,c',db⟩:=gr (cz.out.U d1) j (by rw[←bw.out];exact dB);subst c';have E:=aJ db;have ee:(j:Int)<(t:Int):=(by omega);have Y:i+j<z+t:=(by omega);obtain⟨s,u⟩:∃s,rs[i+j]?=some s:=⟨_,aQ (by rw[Q.out];exact Y)⟩;have bi:=a2.out s (dy u);have c0:=N.out.cell u;have cD:=N.out.frozen (i+j);obtain⟨h,l,W,cf,U,ch,c7,c4,c5,E,I,g1,T,c1,c2⟩:=vY d2 d3 d5 d6 bi.1 (by show s<((2:Int) ^ 64);exact bi.2) b3 b4;have W:0≤U∧U<(aj:Int):=by rw[E];exact⟨Int.emod_nonneg _ (by decide),Int.emod_lt_of_pos _ (by decide)⟩
     have ab:az aj (rs.set (i+j) U)+(aj:Int) ^ (i+(j+1))*(h+cf+ch)=az aj ah+(aj:Int) ^ i*(p*az aj (vs.take (j+1))):=by
      rw[mU aj u,kU aj cc,show i+(j+1)=i+j+1 by omega,Int.pow_succ,E,I];have T:=Int.emod_add_mul_ediv (p*q+s+c) (aj:Int);have a9:=b1.out;generalize az aj (vs.take j)=X at a9 ⊢;generalize (p*q+s+c)%(aj:Int)=M at T ⊢;generalize (p*q+s+c) / (aj:Int)=X at T ⊢;rw[Int.mul_assoc,show(aj:Int)*X=p*q+s+c-M by omega,Int.mul_add p,Int.mul_add,←Int.mul_assoc p _ q,Int.mul_comm p ((aj:Int) ^ j),Int.mul_assoc _ p q,←Int.mul_assoc ((aj:Int) ^ i) ((aj:Int) ^ j),←Int.pow_add];rw[Int.mul_sub,Int.mul_sub,Int.mul_add,Int.mul_add];omega
     have a6:=aa ab;have T:s=0∨i+j<i+t:=.inr (by omega)
     have V:∀k y,i+t≤k→(rs.set (i+j) U)[k]?=some y→y=0:=fun k y O J=>by
      rw[fV (by omega)]at J;exact a7.out k y O J
     have a8:=aa V;have co:=aa W;clear ab V W E I u cc bi T
     go_wp2_with (first
      |(go_at_call 262;refine(c7 _).mono ?_;rintro e eA ⟨rfl,rfl⟩)
      |simp only[c4]
      |simp only[c5])
     go_roundg (gk-1)
     case rel=>exact⟨j+1,h+cf+ch,rs.set (i+j) U,congrArg (Value.int .i64) (by omega),rfl,by omega,c1,c2,by rw[de,Q.out],a2.out.set _ co.out,a6.out,a8.out,N.out.set (i+j) U (by rw[Q.out];exact Y),a4.out.setCell (Or.inl rfl) _⟩
     case measure=>omega
    ·have ds:j=t:=(by omega);subst ds;have ee:¬(j:Int)<(j:Int):=(by omega);have Y:i+j<z+j:=(by omega);obtain⟨s,u⟩:∃s,rs[i+j]?=some s:=⟨_,aQ (by rw[Q.out];exact Y)⟩;have ad:=a7.out (i+j) s (aI _) u;have c0:=N.out.cell u;have cD:=N.out.frozen (i+j)
     have ab:az aj (rs.set (i+j) c)=az aj (us.take (i+1))*az aj vs:=by
      have a9:=b1.out;rw[mU aj u,ad,Int.sub_zero,a9,b2.out,kU aj cl.out,Int.add_mul,Int.mul_assoc,bw.out,List.take_length]
     have a6:=aa ab
     have V:∀k y,i+1+j≤k→(rs.set (i+j) c)[k]?=some y→y=0:=fun k y O J=>by
      rw[fV (by omega)]at J;exact a7.out k y (by omega) J
     have a8:=aa V;clear ab V u ad;go_wp2_with fail;go_roundg (G-1)
     case rel=>exact⟨i+1,rs.set (i+j) c,congrArg (Value.int .i64) (by omega),by omega,by rw[de,Q.out],a2.out.set _ ⟨b3,b4⟩,a6.out,a8.out,N.out.set (i+j) c (by rw[Q.out];exact Y),a4.out.setCell (Or.inl rfl) _⟩
     case measure=>omega
  ·have dj:i=z:=(by omega);subst dj;have ed:¬(i:Int)<(i:Int):=(by omega);have s:az aj ah=((D*v:Nat):Int):=(by rw[b2.out,bv.out,List.take_length];exact cx.out);have cv:=aa (cp.out wr w1.heap.size (i+t) ah bt.out (by omega) s b0.out a3.out);clear s;go_wp2_with (first|(go_at_call 264;refine cv.out.mono ?_;rintro e eA ⟨eB,rfl,d8,d0⟩)|fail)
   go_ret2;have b8:ae w wr:=b7.trans bd;exact⟨eB,rfl,d8.le b8.size,b8.trans d0⟩
end Go.Proofs.YtafkamlhimkbmaaGreat
