/-
  math/bits.Div64 by 2 to 20; nat.Div by it.
-/
import Derived.Test.YtafkamlhimkbmaaGreatPNatX
import Derived.Lib.Tables
namespace Go.Proofs.YtafkamlhimkbmaaGreat
set_option maxRecDepth 1000000
set_option maxHeartbeats 8000000
set_option linter.unusedSimpArgs false
set_option linter.unusedVariables false
open Go.RowKit
theorem u' (w:World):Calls Tryz.prog 226 #[.int .u64 1048576] w fun e s=>e=.returned (.int .i64 21)∧w=s:=by
 have t:Lib.len8 16=5:=by decide +kernel
 have s:wrap64 (16+wrap64 (Lib.len8 16))=21:=by rw[t];decide +kernel
 have u:=aa s;clear t s;go_enter Tryz.func226,Tryz.ntmps226;go_wp2;rw[u.out];go_ret;exact⟨rfl,rfl⟩
theorem uY (w:World):Calls Tryz.prog 247 #[.int .u64 1048576] w fun e s=>e=.returned (.int .i64 43)∧w=s:=by
 have H:=aa (u' w);go_enter Tryz.func247,Tryz.ntmps247;go_wp2_with (first|(go_at_call 226;refine H.out.mono ?_;rintro e w1 ⟨rfl,rfl⟩)|fail)
 go_ret;exact⟨rfl,rfl⟩
theorem sX (lo:Int)(w:World)(h0:0≤lo)(t:lo<18446744073709551616):Calls Tryz.prog 197 #[.int .u64 0,.int .u64 lo,.int .u64 1048576] w fun e s=>e=.returned (.tuple #[.int .u64 (lo / 1048576),.int .u64 (lo%1048576)])∧ae w s:=by
 go_enter Tryz.func197,Tryz.ntmps197;go_wp2_with fail;go_region;go_wp2_with fail;go_ret2;exact⟨rfl,kp⟩
theorem s' {hi lo I z E t N J s u D:Int}(g0:0≤hi)(g1:hi<1048576)(h0:0≤lo)(O:lo<18446744073709551616)
  (W:I=hi*8796093022208+lo / 2097152) (T:z=I / 2147483648) (V:E=I%2147483648) (ab:t=lo*8796093022208%18446744073709551616) (Y:N=t / 4294967296) (X:J=t%4294967296)
  (Z:s=E*4294967296+N) (Q:u=s / 2147483648) (U:D=s%2147483648) :
  z*4294967296+u=(hi*18446744073709551616+lo) / 1048576∧(D*4294967296+J) / 8796093022208=(hi*18446744073709551616+lo)%1048576:=by
 have I:t=(lo%2097152)*8796093022208:=by omega
 have t:N=(lo%2097152)*2048:=by omega
 have t:J=0:=by omega
 have t:z=hi*4096+lo / 4503599627370496:=by omega
 have t:E=lo / 2097152%2147483648:=by omega
 have t:s=(lo%4503599627370496)*2048:=by omega
 have s:u=lo%4503599627370496 / 1048576:=by omega
 have s:D=(lo%1048576)*2048:=by omega
 constructor
 ·omega
 ·omega
theorem wR {hi lo:Int}(g0:0≤hi)(g1:hi<1048576)(h0:0≤lo)(t:lo<18446744073709551616):bits BinOp.or IntKind.u64 (hi*8796093022208) (lo / 2097152)=hi*8796093022208+lo / 2097152:=by
 obtain⟨H,rfl⟩:=Int.eq_ofNat_of_zero_le g0;obtain⟨L,rfl⟩:=Int.eq_ofNat_of_zero_le h0;have s:(H:Int)*8796093022208=((2 ^ 43*H:Nat):Int):=by rw[qT];rfl
 have t:(L:Int) / 2097152=((L / 2097152:Nat):Int):=by omega
 have u:L / 2097152<2 ^ 43:=by omega
 rw[s,t,bits_or_u64_nat _ _ (by omega) (by omega),←Nat.two_pow_add_eq_or_of_lt u];omega
theorem oF {x:Int}(h0:0≤x)(t:x<18446744073709551616):bits BinOp.and IntKind.u64 x 4294967295=x%4294967296:=by
 obtain⟨s,rfl⟩:=Int.eq_ofNat_of_zero_le h0;rw[ky s (by omega)];omega
theorem sW (hi lo:Int)(w:World)(g0:0<hi)(g1:hi<1048576)(h0:0≤lo)(a':lo<18446744073709551616):Calls Tryz.prog 197 #[.int .u64 hi,.int .u64 lo,.int .u64 1048576] w fun e be=>e=.returned (.tuple #[.int .u64 ((hi*18446744073709551616+lo) / 1048576),.int .u64 ((hi*18446744073709551616+lo)%1048576)])∧w=be:=by
 have be:(hi==0)=false:=by simp;omega
 obtain⟨t,ad⟩:∃t,t=hi*8796093022208+lo / 2097152:=⟨_,rfl⟩;obtain⟨E,Y⟩:∃s,s=t / 2147483648:=⟨_,rfl⟩;obtain⟨J,ab⟩:∃s,s=t%2147483648:=⟨_,rfl⟩;obtain⟨I,ba⟩:∃s,s=lo*8796093022208%18446744073709551616:=⟨_,rfl⟩;obtain⟨N,U⟩:∃s,s=I / 4294967296:=⟨_,rfl⟩;obtain⟨Q,T⟩:∃s,s=I%4294967296:=⟨_,rfl⟩;obtain⟨u,ah⟩:∃s,s=J*4294967296+N:=⟨_,rfl⟩;obtain⟨D,X⟩:∃s,s=u / 2147483648:=⟨_,rfl⟩;obtain⟨O,Z⟩:∃s,s=u%2147483648:=⟨_,rfl⟩;obtain⟨am,av⟩:=s' (by omega) g1 h0 a' ad Y ab ba U T ah X Z;have be:0≤t∧t<9223372036854775808:=by omega
 have bh:0≤E∧E<4294967296:=by omega
 have bi:0≤J∧J<2147483648:=by omega
 have s:0≤I∧I<18446744073709551616:=by omega
 have bn:0≤N∧N<4294967296:=by omega
 have bt:0≤Q∧Q<4294967296:=by omega
 have aw:0≤u∧u<9223372036854775808:=by omega
 have bv:0≤D∧D<4294967296:=by omega
 have bw:0≤O∧O<2147483648:=by omega
 have ax:bits BinOp.or IntKind.u64 (hi*8796093022208) (lo / 2097152)=t:=by rw[wR (by omega) g1 h0 a',ad]
 have a0:IntKind.u64.wrap (t.tdiv 2147483648)=E:=by rw[Int.tdiv_eq_ediv_of_nonneg be.1,IntKind.wrap_u64];omega
 have a1:IntKind.u64.wrap (t-IntKind.u64.wrap (E*2147483648))=J:=by rw[IntKind.wrap_u64,IntKind.wrap_u64];omega
 have a2:IntKind.u64.wrap (lo*8796093022208)=I:=by rw[IntKind.wrap_u64];omega
 have a3:bits BinOp.and IntKind.u64 I 4294967295=Q:=by rw[oF s.1 s.2,T]
 have a4:bits BinOp.and IntKind.u64 9223372036854775808 4294967295=0:=by rw[oF (by decide) (by decide)];decide
 have a5:I / 4294967296=N:=U.symm
 have a6:IntKind.u64.wrap (IntKind.u64.wrap (IntKind.u64.wrap (t*4294967296)+N)-IntKind.u64.wrap (E*9223372036854775808))=u:=by
  rw[IntKind.wrap_u64,IntKind.wrap_u64,IntKind.wrap_u64,IntKind.wrap_u64];omega
 have a7:IntKind.u64.wrap (u.tdiv 2147483648)=D:=by rw[Int.tdiv_eq_ediv_of_nonneg aw.1,IntKind.wrap_u64];omega
 have ay:IntKind.u64.wrap (u-IntKind.u64.wrap (D*2147483648))=O:=by rw[IntKind.wrap_u64,IntKind.wrap_u64];omega
 have z:=aa (And.intro ax (And.intro a0 (And.intro a1 (And.intro a2 (And.intro a3 (And.intro a4 a5))))));have W:=aa (And.intro a6 (And.intro a7 ay));have V:=aa (And.intro am av);have bd:=aa (And.intro ah (And.intro X (And.intro Z (And.intro T (And.intro U (And.intro ab Y))))));obtain⟨s,t⟩:=bh;obtain⟨s,t⟩:=bi;obtain⟨s,t⟩:=bn;obtain⟨s,t⟩:=bt;obtain⟨s,t⟩:=aw;obtain⟨s,t⟩:=bv;obtain⟨s,t⟩:=bw;clear ad Y ab ba U T ah X Z ax a0 a1 a2 a3 a4 a5 a6 a7 ay am av;go_enter Tryz.func197,Tryz.ntmps197;go_wp2_with (first|(go_at_call 247;refine(uY _).mono ?_;rintro e w1 ⟨rfl,rfl⟩)|fail)
 simp only[z.out.1,z.out.2.1,z.out.2.2.1,z.out.2.2.2.1,z.out.2.2.2.2.1,z.out.2.2.2.2.2.1,z.out.2.2.2.2.2.2];go_loopg [15,16] 0 (fun gk s al wr=>s=.int .u64 E∧al=.int .u64 J∧w=wr)
 case atStart=>exact⟨rfl,rfl,rfl⟩
 case round=>
  obtain⟨rfl,rfl,rfl⟩:=hrel;go_wp2_with fail;simp only[W.out.1,W.out.2.1,W.out.2.2];go_loopg [18,16] 0 (fun gk s al wr=>s=.int .u64 D∧al=.int .u64 O∧w=wr)
  case atStart=>exact⟨rfl,rfl,rfl⟩
  case round=>
   obtain⟨rfl,rfl,rfl⟩:=hrel
   have a8:IntKind.u64.wrap (IntKind.u64.wrap (E*4294967296)+D)=(hi*18446744073709551616+lo) / 1048576:=by
    rw[IntKind.wrap_u64,IntKind.wrap_u64];have:=V.out.1;omega
   have a9:IntKind.u64.wrap (IntKind.u64.wrap (IntKind.u64.wrap (u*4294967296)+Q)-IntKind.u64.wrap (D*9223372036854775808)) / 8796093022208=(hi*18446744073709551616+lo)%1048576:=by
    rw[IntKind.wrap_u64,IntKind.wrap_u64,IntKind.wrap_u64,IntKind.wrap_u64];obtain⟨s,t,u,z,_⟩:=bd.out;have:=V.out.2;omega
   have bb:=aa a8;have bc:=aa a9;clear a8 a9;go_wp2_with fail;simp only[bb.out,bc.out];go_ret2;exact⟨by rw[←V.out.1];rfl,rfl⟩
theorem ny (hi lo:Int)(w:World)(g0:0≤hi)(g1:hi<1048576)(h0:0≤lo)(s:lo<18446744073709551616):Calls Tryz.prog 197 #[.int .u64 hi,.int .u64 lo,.int .u64 1048576] w fun e u=>e=.returned (.tuple #[.int .u64 ((hi*18446744073709551616+lo) / 1048576),.int .u64 ((hi*18446744073709551616+lo)%1048576)])∧ae w u:=by
 by_cases t:hi=0
 ·subst t;rw[Int.zero_mul,Int.zero_add];exact sX lo w h0 s
 ·refine(sW hi lo w (by omega) g1 h0 s).mono ?_;rintro e w1 ⟨rfl,rfl⟩;exact⟨rfl,ae.refl _⟩
theorem tj (b m:Nat)(l:List Int){i:Nat}{x:Int}(s:l[i]?=some x):dq b m (l.drop i)=(dq b m (l.drop (i+1))*b+x)%m∧eg b m (l.drop i)=(dq b m (l.drop (i+1))*b+x) / m::eg b m (l.drop (i+1)):=by
 rw[lH s];exact⟨rfl,rfl⟩
theorem wj {lo v:Nat}{x:Value}{w:World}(ba:aB lo w v x)(a7:(ar aj v).length≤64) :
  Calls Tryz.prog 132 #[x,.int .u64 1048576] w fun e O=>(∃t,e=.returned (.tuple #[t,.int .u64 ((v%1048576:Nat):Int)])∧aB w.heap.size O (v / 1048576) t)∧ae w O:=by
 obtain⟨cf,b9,ch,ci,cj⟩:=info_parts jK
 obtain⟨a,cap,rfl,b6,ax⟩:=cG ba
 obtain⟨X,Y⟩:=td (b:=aj) (m:=1048576) (v:=v) aR (by decide)
 obtain⟨ws,ay⟩:∃ws,ws=ar aj v:=⟨_,rfl⟩
 have am:aM aj ws:=by rw[ay];exact ft aR v
 rw[←ay]at a7 ax X Y ⊢
 have a9:=nz (b:=aj) (m:=1048576) (by decide) ws am
 have av:=sY aj 1048576 ws
 have a5:∀(s:World) (g n:Nat) (rs:List Int),rs=eg aj 1048576 ws→rs.length=n→bO s g rs→Calls Tryz.prog 129 #[.slice (some ⟨g,0,none⟩) n n] s fun e O=>∃t,e=.returned t∧aB s.heap.size O (v / 1048576) t∧ae s O:=fun s g n rs he cc cd=>by
  subst cc;have q:=kH (some ⟨g,0,none⟩) rs.length rs s (cd.b1 (by rw[he];exact a9)) (by rw[he,av];omega) (aI _);rw[he,X]at q;rw[he];exact q
 have b4:=fun(hi lo:Int) (s:World) g0 g1 h0 Q=>ny hi lo s g0 g1 h0 Q
 have N:=fun i=>lF (b:=aj) (m:=1048576) (by decide) (ws.drop i)
 have a':∀(i:Nat) (y:Int),ws[i]?=some y→0≤y∧y<18446744073709551616:=fun i y T=>am y (dy T)
 obtain⟨u,ad⟩:∃u,u=ws.length:=⟨_,rfl⟩
 rw[←ad]at a7 ⊢
 have W:=aa ad
 have b2:=aa ax
 have bt:=aa a5
 have bn:=aa Y
 have bw:=aa N
 have O:=aa a'
 have O:=aa av
 clear ba b6 ax X Y am a9 av a5 N a' ad b4 ay
 go_enter Tryz.func132,Tryz.ntmps132
 go_wp2_with (first
  |(at_make;refine wpList_make_full _ rfl _ _ 103 rfl w.heap.size 56 cf (.int .u64 0) 1 Tryz.underlying103 b9 ch ci .i64 .i64 _ _ u rfl rfl rfl rfl (by rw[cj];omega) (by unfold maxLen;omega) (by simp) ?_;intro w1 a8 E)
  |fail)
 have bv:=aa (kM a8)
 have cb:ae w w1:=⟨E.os,E.tape,E.output,E.size,fun i hi=>E.block i hi (by simp)⟩
 clear a8 E
 go_wp2_with fail
 go_loopg [7,8] u (fun gk E O wr=>∃(r:Int) (rs:List Int),O=.int .i64 ((gk:Int)-1)∧E=.int .u64 r∧gk≤u∧r=dq aj 1048576 (ws.drop gk)∧rs.length=u∧rs.drop gk=eg aj 1048576 (ws.drop gk)∧bO wr w.heap.size rs∧af (fun k=>k=w.heap.size) w1 wr)
 case atStart=>exact⟨0,List.replicate u 0,rfl,rfl,aI _,by rw[List.drop_of_length_le (by rw[←W.out];exact aI _)];rfl,by simp,by rw[List.drop_of_length_le (by simp),List.drop_of_length_le (by rw[←W.out];exact aI _)];rfl,bv.out,af.refl _ _⟩
 case round=>
  obtain⟨r,rs,rfl,rfl,am,Y,ad,X,E,O⟩:=hrel;have z:=aa E;have a2:=aa O;have I:=aa ad;have a0:=aa X;have a1:=aa Y;have am:=z.out.lt;have al:ae w wr:=cb.new a2.out (fun k am=>by omega);clear E O ad X Y;by_cases a6:gk=0
  ·subst a6;have q:¬(0:Int)≤((0:Nat):Int)-1:=(by omega);have E:rs=eg aj 1048576 ws:=(by have:=a0.out;rw[List.drop_zero,List.drop_zero]at this;exact this);have b1:=aa (bt.out wr w.heap.size u rs E I.out z.out);have O:r=((v%1048576:Nat):Int):=(by rw[a1.out,List.drop_zero,bn.out]);have b0:=aa O;clear E O;go_wp2_with (first|(go_at_call 129;refine b1.out.mono ?_;rintro e E ⟨t,rfl,U,ca⟩)|fail)
   go_ret2;exact⟨⟨t,by rw[b0.out];rfl,U.le al.size⟩,al.trans ca⟩
  ·obtain⟨i,rfl⟩:∃i,gk=i+1:=⟨gk-1,by omega⟩;rw[show((i+1:Nat):Int)-1=(i:Int)from by omega];have E:(0:Int)≤(i:Int):=(by omega);obtain⟨y,b,off,T,ce,E,b5,b7⟩:=gr (b2.out.U al) i (by rw[←W.out];omega);subst b5;obtain⟨t,U⟩:∃t,rs[i]?=some t:=⟨_,aQ (by rw[I.out];omega)⟩;have a3:=z.out.cell U;have b3:=z.out.frozen i;have t:=aJ b7;obtain⟨Z,ab⟩:=tj aj 1048576 ws T;have N:=bw.out (i+1);rw[←a1.out]at N Z ab;obtain⟨bb,bc⟩:=N;have bd:r<1048576:=bc;have ah:=fun(s:World)=>ny r y s bb bd ce (by omega);obtain⟨D,hs⟩:∃D,D=(r*18446744073709551616+y) / 1048576:=⟨_,rfl⟩;obtain⟨V,aw⟩:∃V,V=(r*18446744073709551616+y)%1048576:=⟨_,rfl⟩;rw[←hs,←aw]at ah;have bi:=aa ah;have Q:V=dq aj 1048576 (ws.drop i):=by rw[Z,aw];rfl
   have a4:(rs.set i D).drop i=eg aj 1048576 (ws.drop i):=by
    rw[ab,lH (x:=rs.set i D) (i:=i) (a:=D) (by rw[jA (by rw[I.out];omega)]),List.drop_set_of_lt (by omega),a0.out,hs];rfl
   have be:=aa Q;have bh:=aa a4;have b8:i<u:=(by omega);clear T U Z ab ah hs aw Q a4 bb bc bd a6;go_wp2_with (first|(go_at_call 197;refine(bi.out _).mono ?_;rintro e s ⟨rfl,J⟩;have a3:=J.cell a3;have b3:=(z.out.U J).frozen i;have s:=(z.out.U J).lt)|fail)
   go_roundg i
   case rel=>exact⟨V,rs.set i D,rfl,rfl,by omega,be.out,by rw[de,I.out],bh.out,(z.out.U J).set i D (by rw[I.out];exact b8),af.setCell (af.bd a2.out (J.upd _)) (Or.inl rfl) _⟩
   case measure=>omega
theorem wk {lo v:Nat}{x:Value}{w:World}(J:aB lo w v x)(z:(ar aj v).length≤64) :
  Calls Tryz.prog 76 #[x,.int .u64 1048576] w fun e N=>(∃t,e=.returned (.tuple #[t,.int .u64 ((v%1048576:Nat):Int),.bool true])∧aB w.heap.size N (v / 1048576) t)∧ae w N:=by
 have V:=aa (jl J (by omega))
 have Y:0≤((v%1048576:Nat):Int)∧((v%1048576:Nat):Int)<1048576:=by omega
 obtain⟨r,D⟩:∃r,r=((v%1048576:Nat):Int):=⟨_,rfl⟩
 have T:=aa (fun(u:World) (y:Value) (s:aB w.heap.size u v y)=>by
  have q:=wj s z;rw[←D]at q
  exact q)
 have E:=aa z
 rw[←D]
 clear J z D Y
 go_enter Tryz.func76,Tryz.ntmps76
 go_wp2_with (first
  |(go_at_call 129;refine V.out.mono ?_;rintro e w1 ⟨y,rfl,s,I⟩;have W:=aa s;obtain⟨O,Q,rfl,-,-⟩:=cG s;have q:=fun u=>ko O (ar aj v).length Q u (by have:=E.out;omega);simp only[bM E.out]at q;have U:=aa q;clear s q)
  |(go_at_call 131;refine(U.out _).mono ?_;rintro e ab ⟨rfl,rfl⟩)
  |(go_at_call 132;refine(T.out _ _ W.out).mono ?_;rintro e ad ⟨⟨t,rfl,Z⟩,X⟩)
  |fail)
 go_ret3
 exact⟨⟨t,rfl,Z.le I.size⟩,I.trans X⟩
end Go.Proofs.YtafkamlhimkbmaaGreat
