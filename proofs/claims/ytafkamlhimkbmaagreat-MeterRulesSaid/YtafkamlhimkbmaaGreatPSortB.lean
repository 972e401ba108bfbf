/-
  slices.Sort at uint32, part 6: bits.Len, nextPowerOfTwo, xorshift.Next, breakPatternsOrdered.
-/
import Derived.Test.YtafkamlhimkbmaaGreatPSortA
import Derived.Lib.Tables
import Derived.Lib.BitFns
import Derived.OpenShut
import Derived.Laws.BitsAll
import Derived.Laws.Bits64b
import Derived.Sort.LotC
namespace Go.Proofs.YtafkamlhimkbmaaGreat
set_option maxRecDepth 1000000
set_option maxHeartbeats 8000000
set_option linter.unusedSimpArgs false
set_option linter.unusedVariables false
open Go.RowKit Go.Sort
theorem nk:∀(f x:Nat),x<2 ^ f→x<2 ^ Lib.bitLenAux f x
 |0,x,h=>by simpa[Lib.bitLenAux]using h
 |f+1,x,h=>by
  unfold Lib.bitLenAux;split;·omega
  ·have:=nk f (x / 2) (by rw[dA]at h;omega);rw[ka 1,dA];omega
theorem bitLen_le:∀(f x:Nat),0<x→2 ^ Lib.bitLenAux f x≤2*x
 |0,x,h=>by simp[Lib.bitLenAux];omega
 |f+1,x,h=>by
  unfold Lib.bitLenAux;split;·omega
  ·rw[ka 1,dA];by_cases s:x / 2=0
   ·rw[s];have:Lib.bitLenAux f 0=0:=by cases f<;>simp[Lib.bitLenAux]
    rw[this];omega
   ·have:=bitLen_le f (x / 2) (by omega);omega
def qJ (x:Int)(r:Nat):Prop:=r≤21∧x.toNat<2 ^ r∧2 ^ r≤2*x.toNat
theorem mf (x:Int)(h0:0<x)(s:x≤1048576):qJ x (Lib.bitLen x.toNat):=by
 have a:=nk 64 x.toNat (by have:(2:Nat) ^ 64=18446744073709551616:=rfl;omega);have b:=bitLen_le 64 x.toNat (by omega);refine⟨Nat.le_of_not_lt fun h=>?_,a,b⟩;have:2 ^ 22≤2 ^ Lib.bitLen x.toNat:=cJ (by decide) h;have e:(2:Nat) ^ 22=4194304:=rfl;have b':2 ^ Lib.bitLen x.toNat≤2*x.toNat:=b;omega
theorem nJ (k:Nat)(d:Int)(h0:0≤d)(s:d≤255)(t:k≤16):wrap64 ((k:Int)+wrap64 (Lib.len8 d))=((k+Lib.bitLen d.toNat:Nat):Int):=by
 rw[Lib.len8_of d h0 s];have:=Lib.bitLen_le8' d h0 s;unfold wrap64;omega
theorem tD (x:Int)(h0:0≤x)(s:x≤255):wrap64 (wrap64 (Lib.len8 x))=(Lib.bitLen x.toNat:Int):=by
 rw[Lib.len8_of x h0 s];have:=Lib.bitLen_le8' x h0 s;unfold wrap64;omega
theorem tE (x:Int)(h0:256≤x)(s:x≤65535):wrap64 (8+wrap64 (Lib.len8 (x / 256)))=(Lib.bitLen x.toNat:Int):=by
 rw[Lib.bitLen_shift8 x.toNat (by omega) (by omega),show x.toNat / 256=(x / 256).toNat by omega];exact nJ 8 (x / 256) (by omega) (by omega) (by decide)
theorem tF (x:Int)(h0:65536≤x)(s:x≤1048576):wrap64 (16+wrap64 (Lib.len8 (x / 65536)))=(Lib.bitLen x.toNat:Int):=by
 rw[Lib.bitLen_shift16 x.toNat (by omega) (by omega),show x.toNat / 65536=(x / 65536).toNat by omega];exact nJ 16 (x / 65536) (by omega) (by omega) (by decide)
theorem oD (x:Int)(w:World)(h0:0≤x)(s:x≤255):Calls Tryz.prog 226 #[.int .u64 x] w fun e t=>e=.returned (.int .i64 (Lib.bitLen x.toNat))∧t=w:=by
 have t:=Tryz.underlying9;have g0:0≤x:=by omega
 have g1:x≤255:=by omega
 have F:=aa (tD x h0 s);go_enter Tryz.func226,Tryz.ntmps226;go_wp2;all_goals go_ret
 all_goals exact⟨congrArg Ending.returned (congrArg (Value.int IntKind.i64) F.out),rfl⟩
theorem vd (x:Int)(w:World)(h0:256≤x)(s:x≤65535):Calls Tryz.prog 226 #[.int .u64 x] w fun e t=>e=.returned (.int .i64 (Lib.bitLen x.toNat))∧t=w:=by
 have t:=Tryz.underlying9;have g0:0≤x / 256:=by omega
 have g1:x / 256≤255:=by omega
 have F:=aa (tE x h0 s);go_enter Tryz.func226,Tryz.ntmps226;go_wp2;all_goals go_ret
 all_goals exact⟨congrArg Ending.returned (congrArg (Value.int IntKind.i64) F.out),rfl⟩
theorem ve (x:Int)(w:World)(h0:65536≤x)(s:x≤1048576):Calls Tryz.prog 226 #[.int .u64 x] w fun e t=>e=.returned (.int .i64 (Lib.bitLen x.toNat))∧t=w:=by
 have t:=Tryz.underlying9;have g0:0≤x / 65536:=by omega
 have g1:x / 65536≤255:=by omega
 have F:=aa (tF x h0 s);go_enter Tryz.func226,Tryz.ntmps226;go_wp2;all_goals go_ret
 all_goals exact⟨congrArg Ending.returned (congrArg (Value.int IntKind.i64) F.out),rfl⟩
theorem vh (x:Int)(w:World)(h0:0<x)(t:x≤1048576):Calls Tryz.prog 226 #[.int .u64 x] w fun e s=>e=.returned (.int .i64 (Lib.bitLen x.toNat))∧s=w:=by
 by_cases s:x≤255;·exact oD x w (by omega) s
 ·by_cases s:x≤65535;·exact vd x w (by omega) s
  ·exact ve x w (by omega) t
theorem oE (x:Int)(w:World)(h0:0<x)(u:x≤1048576):Calls Tryz.prog 179 #[.int .u64 x] w fun e s=>e=.returned (.int .i64 (Lib.bitLen x.toNat))∧s=w:=by
 have t:=aa (vh x w h0 u);go_enter Tryz.func179,Tryz.ntmps179;go_wp2_with (go_at_call 226;refine t.out.mono ?_;rintro e s ⟨rfl,rfl⟩)
 go_ret;exact⟨rfl,rfl⟩
theorem xx (x:Int)(w:World)(h0:0<x)(u:x≤1048576):Calls Tryz.prog 252 #[.int .i64 x] w fun e I=>e=.returned (.int .u64 (2 ^ Lib.bitLen x.toNat:Nat))∧I=w:=by
 have t:=aa (oE x w h0 u);have s:=mf x h0 u;obtain⟨r,E⟩:∃r,r=Lib.bitLen x.toNat:=⟨_,rfl⟩;rw[←E]at s t ⊢;clear E;go_enter Tryz.func252,Tryz.ntmps252;go_wp2_with (go_at_call 179;refine t.out.mono ?_;rintro e I ⟨rfl,rfl⟩)
 go_ret
 have N:IntKind.u64.wrap ((2:Int) ^ min r 64)=((2 ^ r:Nat):Int):=by
  have z:(2:Nat) ^ r≤2 ^ 21:=cJ (by decide) s.1;have J:(2:Nat) ^ 21=2097152:=rfl;have D:((2 ^ r:Nat):Int)=(2:Int) ^ r:=by push_cast;rfl
  rw[Nat.min_eq_left (by have:=s.1;omega),IntKind.wrap_u64,←D];rw[J]at z;clear D;generalize (2:Nat) ^ r=q at z ⊢;omega
 exact⟨congrArg Ending.returned (congrArg (Value.int IntKind.u64) N),rfl⟩
structure jZ (w w':World)(sb:Nat)(n:Int):Prop where
 upd:af (fun k=>k=sb) w w'
 cell:w'.cell? ⟨sb,0,none⟩=some (.int .u64 n)
 free:w'.frozen? ⟨sb,0,none⟩=false
theorem wf_u64 {n:Int}(h:(Lit.int .u64 n).wf=true):0≤n∧n≤18446744073709551615:=by
 unfold Lit.wf at h;simp only[cA,cm]at h;exact h
theorem Aw (sb:Nat)(n:Int)(w:World)(ax:w.cell? ⟨sb,0,none⟩=some (.int .u64 n))(ay:w.frozen? ⟨sb,0,none⟩=false)(a5:0≤n)(a1:n≤18446744073709551615) :
  Calls Tryz.prog 253 #[.pointer (some ⟨sb,0,none⟩)] w fun e a3=>∃m:Int,e=.returned (.int .u64 m)∧0≤m∧m≤18446744073709551615∧jZ w a3 sb m:=by
 go_enter Tryz.func253,Tryz.ntmps253
 go_wp2_with fail
 go_region
 obtain⟨s,J⟩:∃v,v=bits BinOp.xor IntKind.u64 n (IntKind.u64.wrap (n*8192)):=⟨_,rfl⟩
 have Y:0≤s∧s≤18446744073709551615:=by rw[J];exact wf_u64 (Go.wf_bits .xor .u64 _ _)
 rw[←J]
 obtain⟨w1,Q⟩:∃x,x=(w.setCell ⟨sb,0,none⟩ (.int .u64 s)).drew:=⟨_,rfl⟩
 have D:jZ w w1 sb s:=by
  rw[Q];exact⟨((af.refl (fun k=>k=sb) w).setCell (p:=⟨sb,0,none⟩) (Or.inl rfl) _).drew,by simp[go_sem,ax],by show World.frozen? (w.setCell _ _) _=_;rw[bP];exact ay⟩
 rw[←Q]
 clear Q J
 obtain⟨Q,J⟩:=Y
 have ad:=D.cell
 have am:=D.free
 have V:=aa D
 clear D
 go_wp2_with fail
 go_region
 obtain⟨t,N⟩:∃v,v=bits BinOp.xor IntKind.u64 s (s / 128):=⟨_,rfl⟩
 have Z:0≤t∧t≤18446744073709551615:=by rw[N];exact wf_u64 (Go.wf_bits .xor .u64 _ _)
 rw[←N]
 obtain⟨z,T⟩:∃x,x=(w1.setCell ⟨sb,0,none⟩ (.int .u64 t)).drew:=⟨_,rfl⟩
 have E:jZ w1 z sb t:=by
  rw[T];exact⟨((af.refl (fun k=>k=sb) w1).setCell (p:=⟨sb,0,none⟩) (Or.inl rfl) _).drew,by simp[go_sem,ad],by show World.frozen? (w1.setCell _ _) _=_;rw[bP];exact am⟩
 rw[←T]
 clear T N
 obtain⟨a1,s⟩:=Z
 have ah:=E.cell
 have av:=E.free
 have W:=aa E
 clear E
 go_wp2_with fail
 go_region
 obtain⟨u,O⟩:∃v,v=bits BinOp.xor IntKind.u64 t (IntKind.u64.wrap (t*131072)):=⟨_,rfl⟩
 have ab:0≤u∧u≤18446744073709551615:=by rw[O];exact wf_u64 (Go.wf_bits .xor .u64 _ _)
 rw[←O]
 obtain⟨a4,U⟩:∃x,x=(z.setCell ⟨sb,0,none⟩ (.int .u64 u)).drew:=⟨_,rfl⟩
 have I:jZ z a4 sb u:=by
  rw[U];exact⟨((af.refl (fun k=>k=sb) z).setCell (p:=⟨sb,0,none⟩) (Or.inl rfl) _).drew,by simp[go_sem,ah],by show World.frozen? (z.setCell _ _) _=_;rw[bP];exact av⟩
 rw[←U]
 clear U O
 obtain⟨a2,a0⟩:=ab
 have al:=I.cell
 have aw:=I.free
 have X:=aa I
 clear I
 go_wp2
 go_ret
 exact⟨u,rfl,a2,a0,(V.out.upd.bd W.out.upd).bd X.out.upd,al,aw⟩
theorem qY (m:Int)(c:Nat)(h0:0≤m)(t:m≤18446744073709551615)(s:c<18446744073709551616):0≤bits BinOp.and IntKind.u64 m (c:Int)∧bits BinOp.and IntKind.u64 m (c:Int)≤(c:Int):=by
 obtain⟨k,rfl⟩:=Int.eq_ofNat_of_zero_le h0;rw[bits_and_u64_nat k c (by omega) s];have:=Nat.and_le_right (n:=k) (m:=c);omega
theorem rQ (t cap len a b:Nat)(d:Array Int)(w:World)(a3:bE w t cap d)(bb:d.size=len)(bv:a+13≤b)(am:b≤len)(b6:len≤1048576) :
  Calls Tryz.prog 218 #[.slice (some ⟨t,0,none⟩) len cap,.int .i64 a,.int .i64 b] w fun e bh=>
   e=.returned (.tuple #[])∧∃d',PermIn a b d d'∧aL w bh t cap d':=by
 have a1:t≠w.heap.size:=by have:=a3.lt;omega
 obtain⟨q,bc⟩:∃q:Nat,q=(b-a) / 4:=⟨_,rfl⟩
 have bv:3≤q:=by omega
 have bv:4*q≤b-a:=by omega
 have bd:((b:Int)-(a:Int)) / 4=(q:Int):=by omega
 have bv:(8:Int)≤(b:Int)-(a:Int):=by omega
 have al:=mf ((b:Int)-(a:Int)) (by omega) (by omega)
 have ax:=aa (fun bv=>xx ((b:Int)-(a:Int)) bv (by omega) (by omega))
 obtain⟨r,be⟩:∃r,r=Lib.bitLen ((b:Int)-(a:Int)).toNat:=⟨_,rfl⟩
 rw[←be]at al ax
 clear be
 obtain⟨N,av⟩:∃N:Nat,N=2 ^ r:=⟨_,rfl⟩
 rw[←av]at ax
 have be:N≤2*(b-a):=by have:=al.2.2;rw[←av]at this;omega
 have be:b-a<N:=by have:=al.2.1;rw[←av]at this;omega
 clear al av
 have al:=aa bc
 have bn:=aa a3
 have bi:=aa bb
 clear bc a3 bb
 go_enter Tryz.func218,Tryz.ntmps218
 go_wp2_with (go_at_call 252;refine(ax.out _).mono ?_;rintro e bh ⟨rfl,rfl⟩)
 have b1:bE (w.alloc (.cells #[.int .u64 ((b:Int)-(a:Int))] 312)) t cap d:=bn.out.keep (G:=fun _=>False) ((af.refl _ w).alloc _) (fun h=>h)
 have a8:=aa bd
 clear bd
 go_loopg [9] 3 (fun gk al wr=>∃(x:Nat) (u:Array Int) (v:Int),x+gk=a+2*q+2∧a+2*q≤x+1∧al=.int .i64 (x:Int)∧PermIn a b d u∧aL w wr t cap u∧wr.cell? ⟨w.heap.size,0,none⟩=some (.int .u64 v)∧wr.frozen? ⟨w.heap.size,0,none⟩=false∧0≤v∧v≤18446744073709551615∧w.heap.size<wr.heap.size)
 case atStart=>exact⟨a+2*q-1,d,(b:Int)-(a:Int),by omega,by omega,by congr 1;omega,permIn_refl _ _ _,⟨(af.refl _ w).alloc _,b1⟩,by simp[go_sem],by simp[go_sem],by omega,by omega,by simp⟩
 case round=>
  obtain⟨x,u,v,b5,b7,rfl,al,hS,av,ax,bb,bc,b3⟩:=hrel;have a3:u.size=len:=al.1.trans bi.out;have I:=aa hS;have X:=aa al;have z:=aa a3;clear hS al a3;by_cases al:x≤a+2*q+1
  ·have bw:(x:Int)≤(a:Int)+((b:Int)-(a:Int)) / 4*2+1:=(by rw[a8.out];omega);have bt:=aa (Aw w.heap.size v wr av ax bb bc);clear av ax;go_wp2_with fail;refine bt.out.mono ?_;rintro e w1 ⟨m,rfl,Z,ab,D⟩;have b2:¬w.heap.size=t:=fun h=>a1 h.symm
   have a9:aL w w1 t cap u:=⟨⟨D.upd.os.trans I.out.upd.os,D.upd.tape.trans I.out.upd.tape,D.upd.output.trans I.out.upd.output,dp I.out.upd.size D.upd.size,fun k al av=>by
    rw[D.upd.block k (dz al I.out.upd.size) (by omega),I.out.upd.block k al av]⟩,I.out.row.keep D.upd a1⟩
   have aw:w.heap.size<w1.heap.size:=dz b3 D.upd.size
   have a':∀(y ax:Nat) (al av:Value) (n:Nat),(((w1.drewN n).setCell ⟨t,y,none⟩ al).setCell ⟨t,ax,none⟩ av).cell? ⟨w.heap.size,0,none⟩=some (.int .u64 m)∧(((w1.drewN n).setCell ⟨t,y,none⟩ al).setCell ⟨t,ax,none⟩ av).frozen? ⟨w.heap.size,0,none⟩=false:=by
    intro y ax al av n;refine⟨?_,?_⟩;·simp[go_sem,b2,a1,D.cell]
    ·rw[bP,bP];exact D.free
   have J:=aa a9;have E:=aa a';clear a9 a' D;have a2:=qY m (N-1) Z ab (by omega);obtain⟨o,D⟩:=Int.eq_ofNat_of_zero_le a2.1;have al:o≤N-1:=(by have:=a2.2;rw[D]at this;omega);rw[show((N-1:Nat):Int)=(N:Int)-1 by omega]at D;clear a2;obtain⟨g,ba⟩:∃g:Nat→Int,∀s,g s=u[s]!:=⟨fun s=>u[s]!,fun _=>rfl⟩;have O:=aa ba;clear ba;have ad:w1.cell? ⟨t,x,none⟩=some (.int .u32 (g x)):=(by rw[O.out];exact J.out.row.cell x (by rw[z.out];omega));have ah:w1.frozen? ⟨t,x,none⟩=false:=J.out.row.frozen x;have rx:(x:Int)<(len:Int):=(by omega);by_cases D:b-a≤o
   ·obtain⟨s,a4⟩:∃s:Nat,s=o-(b-a):=⟨_,rfl⟩;have D:(o:Int)-((b:Int)-(a:Int))=(s:Int):=(by omega);have b0:(b:Int)-(a:Int)≤(o:Int):=(by omega);have b4:a+s<b:=(by omega);clear a4;have Q:=fun n=>J.out.b8 n x (a+s) (by rw[z.out];omega) (by rw[z.out];omega);rw[←O.out,←O.out]at Q;have Y:Hid (∀n,aL w (((w1.drewN n).setCell ⟨t,x,none⟩ (.int .u32 (g (a+s)))).setCell ⟨t,a+s,none⟩ (.int .u32 (g x))) t cap (swp u x (a+s))):=aa Q;clear Q;go_wp2_with fail;by_cases a5:x=a+s
    ·skip
     subst a5;have W:IntKind.i64.wrap ((a:Int)+(s:Int))=(a:Int)+(s:Int):=IntWalk.i64_in _ ⟨by omega,by omega⟩;have T:((a:Int)+(s:Int)).toNat=a+s:=(by omega);have U:(0:Int)≤(a:Int)+(s:Int):=(by omega);have V:(a:Int)+(s:Int)<(len:Int):=(by omega);go_region;clear W T U V ad ah;go_wp2;go_roundg (gk-1)
     case rel=>exact⟨a+s+1,_,m,by omega,by omega,by first|rfl|go_num,permIn_trans _ _ _ _ _ X.out (swp_permIn u a b (a+s) (a+s) (by omega) (by omega) (by omega) (by omega) (by rw[z.out];exact am)),Y.out 1,(E.out _ _ _ _ 1).1,(E.out _ _ _ _ 1).2,Z,ab,by simp only[World.a6,aA];exact aw⟩
     case measure=>omega
    ·skip
     have a6:¬a+s=x:=(by omega);have a7:¬x=a+s:=(by omega);have ay:w1.cell? ⟨t,a+s,none⟩=some (.int .u32 (g (a+s))):=(by rw[O.out];exact J.out.row.cell (a+s) (by rw[z.out];omega));have a0:w1.frozen? ⟨t,a+s,none⟩=false:=J.out.row.frozen (a+s);have T:((a:Int)+(s:Int)).toNat=a+s:=(by omega);have U:(0:Int)≤(a:Int)+(s:Int):=(by omega);have V:(a:Int)+(s:Int)<(len:Int):=(by omega);have W:IntKind.i64.wrap ((a:Int)+(s:Int))=(a:Int)+(s:Int):=IntWalk.i64_in _ ⟨by omega,by omega⟩;go_region;clear W a6 a7 ay a0 T U V ad ah;go_wp2;go_roundg (gk-1)
     case rel=>exact⟨x+1,_,m,by omega,by omega,by first|rfl|go_num,permIn_trans _ _ _ _ _ X.out (swp_permIn u a b x (a+s) (by omega) (by omega) (by omega) (by omega) (by rw[z.out];exact am)),Y.out 1,(E.out _ _ _ _ 1).1,(E.out _ _ _ _ 1).2,Z,ab,by simp only[World.a6,aA];exact aw⟩
     case measure=>omega
   ·obtain⟨s,a4⟩:∃s:Nat,s=o:=⟨_,rfl⟩;subst a4;have b0:¬(b:Int)-(a:Int)≤(s:Int):=(by omega);have b4:a+s<b:=(by omega);have Q:=fun n=>J.out.b8 n x (a+s) (by rw[z.out];omega) (by rw[z.out];omega);rw[←O.out,←O.out]at Q;have Y:Hid (∀n,aL w (((w1.drewN n).setCell ⟨t,x,none⟩ (.int .u32 (g (a+s)))).setCell ⟨t,a+s,none⟩ (.int .u32 (g x))) t cap (swp u x (a+s))):=aa Q;clear Q;go_wp2_with fail;by_cases a5:x=a+s
    ·skip
     subst a5;have W:IntKind.i64.wrap ((a:Int)+(s:Int))=(a:Int)+(s:Int):=IntWalk.i64_in _ ⟨by omega,by omega⟩;have T:((a:Int)+(s:Int)).toNat=a+s:=(by omega);have U:(0:Int)≤(a:Int)+(s:Int):=(by omega);have V:(a:Int)+(s:Int)<(len:Int):=(by omega);go_region;clear W T U V ad ah;go_wp2;go_roundg (gk-1)
     case rel=>exact⟨a+s+1,_,m,by omega,by omega,by first|rfl|go_num,permIn_trans _ _ _ _ _ X.out (swp_permIn u a b (a+s) (a+s) (by omega) (by omega) (by omega) (by omega) (by rw[z.out];exact am)),Y.out 1,(E.out _ _ _ _ 1).1,(E.out _ _ _ _ 1).2,Z,ab,by simp only[World.a6,aA];exact aw⟩
     case measure=>omega
    ·skip
     have a6:¬a+s=x:=(by omega);have a7:¬x=a+s:=(by omega);have ay:w1.cell? ⟨t,a+s,none⟩=some (.int .u32 (g (a+s))):=(by rw[O.out];exact J.out.row.cell (a+s) (by rw[z.out];omega));have a0:w1.frozen? ⟨t,a+s,none⟩=false:=J.out.row.frozen (a+s);have T:((a:Int)+(s:Int)).toNat=a+s:=(by omega);have U:(0:Int)≤(a:Int)+(s:Int):=(by omega);have V:(a:Int)+(s:Int)<(len:Int):=(by omega);have W:IntKind.i64.wrap ((a:Int)+(s:Int))=(a:Int)+(s:Int):=IntWalk.i64_in _ ⟨by omega,by omega⟩;go_region;clear W a6 a7 ay a0 T U V ad ah;go_wp2;go_roundg (gk-1)
     case rel=>exact⟨x+1,_,m,by omega,by omega,by first|rfl|go_num,permIn_trans _ _ _ _ _ X.out (swp_permIn u a b x (a+s) (by omega) (by omega) (by omega) (by omega) (by rw[z.out];exact am)),Y.out 1,(E.out _ _ _ _ 1).1,(E.out _ _ _ _ 1).2,Z,ab,by simp only[World.a6,aA];exact aw⟩
     case measure=>omega
  ·have bw:¬(x:Int)≤(a:Int)+((b:Int)-(a:Int)) / 4*2+1:=(by rw[a8.out];omega);go_wp2;first|go_end0|refine an (results_none rfl _ _ _) rfl ?_
   exact⟨rfl,u,X.out,I.out⟩
theorem mS (p:Int→Bool)(d:Array Int)(j i:Nat)(h:i≤j)(s:p d[i]! = true):scanUp p d j (i+1) = scanUp p d j i:=by
 rw[scanUp.eq_1 p d j i,ai (by simp[h,s])]
theorem jr (p:Int→Bool)(d:Array Int)(j i:Nat)(h:¬i≤j∨p d[i]! = false):scanUp p d j i = i:=by
 rw[scanUp,ag (by rcases h with h|h<;>simp[h])]
theorem lG (p:Int→Bool)(d:Array Int)(i j:Nat)(h:i≤j)(h0:0<j)(s:p d[j]! = true):scanDown p d i (j-1) = scanDown p d i j:=by
 obtain⟨k,rfl⟩:∃k,j=k+1:=⟨j-1,by omega⟩;rw[scanDown,ai (by simp[h,s])];rfl
theorem gJ (p:Int→Bool)(d:Array Int)(i j:Nat)(h:¬i≤j∨p d[j]! = false):scanDown p d i j = j:=by
 cases j with
 |zero=>rfl
 |succ k=>rw[scanDown,ag (by rcases h with h|h<;>simp[h])]
theorem o9 (a i j:Nat)(s:Array Int){t u:Nat}(z:scanUp (fun x=>!ltInt s[a]! x) s j i=t)(D:scanDown (fun x=>ltInt s[a]! x) s t j=u)(h:u<t):partEqLoop ltInt a i j s=(t,s):=by
 subst z;subst D;rw[partEqLoop_eq,ai h]
theorem xn (a i j:Nat)(s:Array Int){t u:Nat}(z:scanUp (fun x=>!ltInt s[a]! x) s j i=t)(D:scanDown (fun x=>ltInt s[a]! x) s t j=u)(h:¬t > u):partEqLoop ltInt a (t+1) (u-1) (swp s t u)=partEqLoop ltInt a i j s:=by
 subst z;subst D;rw[partEqLoop_eq ltInt a i j,ag h]
theorem xm (z cap len a b E:Nat)(d:Array Int)(w:World)(T:bE w z cap d)(bb:d.size=len)(cd:a≤E)(ci:E<b)(ce:b≤len)(cj:len≤1048576) :
  Calls Tryz.prog 223 #[.slice (some ⟨z,0,none⟩) len cap,.int .i64 a,.int .i64 b,.int .i64 E] w fun e cc=>
   e=.returned (.int .i64 (partitionEqual ltInt d a b E).1)∧aL w cc z cap (partitionEqual ltInt d a b E).2:=by
 have a8:=aL.self T
 have Q:=fun n=>a8.b8 n a E (by omega) (by omega)
 obtain⟨g,Z⟩:∃g:Nat→Int,∀N,g N=d[N]!:=⟨fun N=>d[N]!,fun _=>rfl⟩
 rw[←Z,←Z]at Q
 have a4:=aa Q
 have b0:Hid ((swp d a E).size=len):=aa (by rw[size_swp];exact bb)
 have b1:w.cell? ⟨z,a,none⟩=some (.int .u32 (g a)):=by rw[Z];exact T.cell a (by omega)
 have b2:w.cell? ⟨z,E,none⟩=some (.int .u32 (g E)):=by rw[Z];exact T.cell E (by omega)
 have b3:w.frozen? ⟨z,a,none⟩=false:=T.frozen a
 have b4:w.frozen? ⟨z,E,none⟩=false:=T.frozen E
 have cc:(a:Int)<(len:Int):=by omega
 have cc:(E:Int)<(len:Int):=by omega
 have a3:Hid (partitionEqual ltInt d a b E=partEqLoop ltInt a (a+1) (b-1) (swp d a E)):=aa rfl
 obtain⟨R,a1⟩:∃R,partitionEqual ltInt d a b E=R:=⟨_,rfl⟩
 rw[a1]
 rw[a1]at a3
 clear Q Z a1 a8 T bb
 go_enter Tryz.func223,Tryz.ntmps223
 go_upto_region 1 with fail
 go_cut [] (fun T=>aL w T z cap (swp d a E))
 case first=>
  by_cases ca:E=a
  ·subst ca;go_region;all_goals go_wp2_with fail
   all_goals go_meet
   all_goals exact a4.out 1
  ·have T:¬a=E:=(by omega);go_region;all_goals go_wp2_with fail
   all_goals go_meet
   all_goals exact a4.out 1
 case rest=>
  clear b1 b2 b3 b4;have a9:=hcut;clear hcut;go_wp2_with fail;go_loopg [9,10] (b+1) (fun gk a2 ad wr=>∃(i j:Nat) (t:Array Int),j+1-i≤gk∧a2=.int .i64 (i:Int)∧ad=.int .i64 (j:Int)∧a<i∧i≤j+1∧j<b∧t.size=len∧aL w wr z cap t∧R=partEqLoop ltInt a i j t)
  case atStart=>exact⟨a+1,b-1,_,by omega,by go_num,by congr 1;omega,by omega,by omega,by omega,b0.out,a9,a3.out⟩
  case round=>
   obtain⟨i,j,t,cf,rfl,rfl,E,b7,T,bd,hS,a7⟩:=hrel;have bv:=aa hS;have ay:=aa a7;have J:=aa bd;obtain⟨b5,rfl⟩:∃x:Nat,x=gk:=⟨_,rfl⟩;obtain⟨cl,rfl⟩:∃x:World,x=wr:=⟨_,rfl⟩;obtain⟨h,a'⟩:∃h:Nat→Int,∀N,h N=t[N]!:=⟨fun N=>t[N]!,fun _=>rfl⟩;have I:=aa a';clear hS a7 bd a9 a';have E:(i:Int)≤(j:Int)+1:=(by omega);go_wp2_with fail;go_loopg [9] (j+1) (fun X a2 ah=>∃s:Nat,j+1-s≤X∧a2=.int .i64 (s:Int)∧i≤s∧s≤j+1∧aL w ah z cap t∧scanUp (fun x=>!ltInt t[a]! x) t j s=scanUp (fun x=>!ltInt t[a]! x) t j i)
   case atStart=>exact⟨i,by omega,rfl,by omega,b7,bv.out,rfl⟩
   case round=>
    obtain⟨s,ch,rfl,N,ba,O,E⟩:=hrel;have D:=aa O;have V:=aa E;clear O E;have am:wr.cell? ⟨z,a,none⟩=some (.int .u32 (h a)):=(by rw[I.out];exact D.out.row.cell a (by rw[J.out];omega));by_cases bc:s≤j
    ·have a5:wr.cell? ⟨z,s,none⟩=some (.int .u32 (h s)):=(by rw[I.out];exact D.out.row.cell s (by rw[J.out];omega));have E:(s:Int)<(len:Int):=(by omega);have be:(s:Int)≤(j:Int):=(by omega);rcases eC (ltInt (h a) (h s))with Y|Y
     ·have ax:Hid (scanUp (fun x=>!ltInt t[a]! x) t j (s+1)=scanUp (fun x=>!ltInt t[a]! x) t j i):=aa (by rw[←V.out];exact mS _ t j s bc (by rw[←I.out,←I.out,Y];rfl));go_wp2_with fail;go_quiet ((go_at_call 222;exact aU (aV _ _ _)));go_wp2;go_roundg (gk-1)
      case rel=>exact⟨s+1,by omega,by go_num,by omega,by omega,D.out.drewN nq,ax.out⟩
      case measure=>omega
     ·have al:Hid (scanUp (fun x=>!ltInt t[a]! x) t j i=s):=aa (by rw[←V.out];exact jr _ t j s (Or.inr (by rw[←I.out,←I.out,Y];rfl)));go_wp2_with fail;go_quiet ((go_at_call 222;exact aU (aV _ _ _)));go_wp2;have a0:=aa (D.out.drewN nq);have bn:=aa Y;clear am a5 D V Y;go_loopg [10] (j+1) (fun X ad ah=>∃u:Nat,u≤X∧ad=.int .i64 (u:Int)∧u≤j∧s≤u+1∧aL w ah z cap t∧scanDown (fun x=>ltInt t[a]! x) t s u=scanDown (fun x=>ltInt t[a]! x) t s j)
      case atStart=>exact⟨j,by omega,rfl,by omega,ba,a0.out,rfl⟩
      case round=>
       obtain⟨u,b6,rfl,b9,b8,O,ab⟩:=hrel;have D:=aa O;have W:=aa ab;clear O ab;have am:wr.cell? ⟨z,a,none⟩=some (.int .u32 (h a)):=(by rw[I.out];exact D.out.row.cell a (by rw[J.out];omega));by_cases aw:s≤u
       ·have E:wr.cell? ⟨z,u,none⟩=some (.int .u32 (h u)):=(by rw[I.out];exact D.out.row.cell u (by rw[J.out];omega));have E:(u:Int)<(len:Int):=(by omega);have bh:(s:Int)≤(u:Int):=(by omega);rcases eC (ltInt (h a) (h u))with av|av
        ·have U:Hid (scanDown (fun x=>ltInt t[a]! x) t s j=u):=aa (by rw[←W.out];exact gJ _ t s u (Or.inr (by rw[←I.out,←I.out];exact av)));have cb:¬u=s:=fun e=>(by have a6:=bn.out;rw[←e,av]at a6;cases a6);have E:¬s=u:=fun e=>cb e.symm;have a5:wr.cell? ⟨z,s,none⟩=some (.int .u32 (h s)):=(by rw[I.out];exact D.out.row.cell s (by rw[J.out];omega));have E:wr.frozen? ⟨z,s,none⟩=false:=D.out.row.frozen s;have E:wr.frozen? ⟨z,u,none⟩=false:=D.out.row.frozen u;have bi:(s:Int)<(len:Int):=(by omega);have E:¬(u:Int)<(s:Int):=(by omega);have Q:=fun n=>D.out.b8 n s u (by rw[J.out];omega) (by rw[J.out];omega);rw[←I.out,←I.out]at Q;have bw:=aa Q;have bt:Hid (R=partEqLoop ltInt a (s+1) (u-1) (swp t s u)):=aa (by rw[xn a i j t al.out U.out (by omega)];exact ay.out);clear Q;go_wp2_with fail;go_quiet ((go_at_call 222;exact aU (aV _ _ _)));go_wp2;go_region;all_goals go_wp2
         go_roundg (b5-1)
         case rel=>exact⟨s+1,u-1,_,by omega,by go_num,by congr 1;omega,by omega,by omega,by omega,by rw[size_swp];exact J.out,bw.out (nq+1),bt.out⟩
         case measure=>omega
        ·have ax:Hid (scanDown (fun x=>ltInt t[a]! x) t s (u-1)=scanDown (fun x=>ltInt t[a]! x) t s j):=aa (by rw[←W.out];exact lG _ t s u aw (by omega) (by rw[←I.out,←I.out];exact av));go_wp2_with fail;go_quiet ((go_at_call 222;exact aU (aV _ _ _)));go_wp2;go_roundg (gk-1)
         case rel=>exact⟨u-1,by omega,by congr 1;omega,by omega,by omega,D.out.drewN nq,ax.out⟩
         case measure=>omega
       ·have U:Hid (scanDown (fun x=>ltInt t[a]! x) t s j=u):=aa (by rw[←W.out];exact gJ _ t s u (Or.inl aw));have bh:decide ((s:Int)≤(u:Int))=false:=bQ (by omega);have bi:(u:Int)<(s:Int):=(by omega);go_wp2_with fail;go_quiet ((go_at_call 222;exact aU (aV _ _ _)));go_wp2;go_ret;have e:=o9 a i j t al.out U.out (by omega);rw[ay.out,e];exact⟨rfl,D.out.drewN _⟩
    ·have al:Hid (scanUp (fun x=>!ltInt t[a]! x) t j i=s):=aa (by rw[←V.out];exact jr _ t j s (Or.inl bc));have be:decide ((s:Int)≤(j:Int))=false:=bQ (by omega);go_wp2_with fail;go_quiet ((go_at_call 222;exact aU (aV _ _ _)));go_wp2;have a0:=aa (D.out.drewN nq);clear am D V be;go_loopg [10] (j+1) (fun X ad ah=>∃u:Nat,u≤X∧ad=.int .i64 (u:Int)∧u≤j∧s≤u+1∧aL w ah z cap t∧scanDown (fun x=>ltInt t[a]! x) t s u=scanDown (fun x=>ltInt t[a]! x) t s j)
     case atStart=>exact⟨j,by omega,rfl,by omega,ba,a0.out,rfl⟩
     case round=>
      obtain⟨u,b6,rfl,b9,b8,O,ab⟩:=hrel;have D:=aa O;have W:=aa ab;clear O ab;have am:wr.cell? ⟨z,a,none⟩=some (.int .u32 (h a)):=(by rw[I.out];exact D.out.row.cell a (by rw[J.out];omega));by_cases aw:s≤u;·exfalso;omega
      ·have U:Hid (scanDown (fun x=>ltInt t[a]! x) t s j=u):=aa (by rw[←W.out];exact gJ _ t s u (Or.inl aw));have bh:decide ((s:Int)≤(u:Int))=false:=bQ (by omega);have bi:(u:Int)<(s:Int):=(by omega);go_wp2_with fail;go_quiet ((go_at_call 222;exact aU (aV _ _ _)));go_wp2;go_ret;have e:=o9 a i j t al.out U.out (by omega);rw[ay.out,e];exact⟨rfl,D.out.drewN _⟩
def my (a:Nat)(r:Nat×Array Int):Nat×Bool×Array Int:=(r.1,false,swp r.2 r.1 a)
theorem o8 (d:Array Int)(a b z:Nat){s:Array Int}{i j u t:Nat}(D:s=swp d a z)(hi:i=a+1)(I:j=b-1)(E:scanUp (fun x=>ltInt x s[a]!) s j i=u)(J:scanDown (fun x=>!ltInt x s[a]!) s u j=t)(h:t<u) :
  partition ltInt d a b z=(t,true,swp s t a):=by
 subst D;subst hi;subst I;subst E;subst J
 unfold partition
 simp only[]
 rw[ai h]
theorem xg (d:Array Int)(a b z:Nat){s:Array Int}{i j t u:Nat}(D:s=swp d a z)(hi:i=a+1)(I:j=b-1)(E:scanUp (fun x=>ltInt x s[a]!) s j i=t)(J:scanDown (fun x=>!ltInt x s[a]!) s t j=u)(h:¬t > u) :
  partition ltInt d a b z=my a (partLoop ltInt a (t+1) (u-1) (swp s t u)):=by
 subst D;subst hi;subst I;subst E;subst J
 unfold partition
 simp only[]
 rw[ag h]
 rfl
theorem pc (a i j:Nat)(s:Array Int){t u:Nat}(z:scanUp (fun x=>ltInt x s[a]!) s j i=t)(D:scanDown (fun x=>!ltInt x s[a]!) s t j=u)(h:u<t):partLoop ltInt a i j s=(u,s):=by
 subst z;subst D;rw[partLoop_eq,ai h]
theorem xw (a i j:Nat)(s:Array Int){t u:Nat}(z:scanUp (fun x=>ltInt x s[a]!) s j i=t)(D:scanDown (fun x=>!ltInt x s[a]!) s t j=u)(h:¬t > u):partLoop ltInt a (t+1) (u-1) (swp s t u)=partLoop ltInt a i j s:=by
 subst z;subst D;rw[partLoop_eq ltInt a i j,ag h]
theorem xe (E cap len a b N:Nat)(d:Array Int)(w:World)(a5:bE w E cap d)(cp:d.size=len)(db:a≤N)(dl:N<b)(dj:b≤len)(ds:len≤1048576) :
  Calls Tryz.prog 224 #[.slice (some ⟨E,0,none⟩) len cap,.int .i64 a,.int .i64 b,.int .i64 N] w fun e da=>
   e=.returned (.tuple #[.int .i64 (partition ltInt d a b N).1,.bool (partition ltInt d a b N).2.1])∧aL w da E cap (partition ltInt d a b N).2.2:=by
 have ci:=aL.self a5
 have J:=fun n=>ci.b8 n a N (by omega) (by omega)
 obtain⟨g,bb⟩:∃g:Nat→Int,∀Q,g Q=d[Q]!:=⟨fun Q=>d[Q]!,fun _=>rfl⟩
 rw[←bb,←bb]at J
 have cd:=aa J
 have c2:w.cell? ⟨E,a,none⟩=some (.int .u32 (g a)):=by rw[bb];exact a5.cell a (by omega)
 have c3:w.cell? ⟨E,N,none⟩=some (.int .u32 (g N)):=by rw[bb];exact a5.cell N (by omega)
 have c4:w.frozen? ⟨E,a,none⟩=false:=a5.frozen a
 have c5:w.frozen? ⟨E,N,none⟩=false:=a5.frozen N
 have da:(a:Int)<(len:Int):=by omega
 have da:(N:Int)<(len:Int):=by omega
 obtain⟨u,b8⟩:∃x,x=swp d a N:=⟨_,rfl⟩
 obtain⟨i,hi⟩:∃x,x=a+1:=⟨_,rfl⟩
 obtain⟨j,cn⟩:∃x,x=b-1:=⟨_,rfl⟩
 have a1:=aa b8
 have a9:=aa hi
 have a':=aa cn
 have I:Hid (u.size=len):=aa (by rw[b8,size_swp];exact cp)
 have cj:a<i:=by omega
 have b0:i≤j+1:=by omega
 have co:j<b:=by omega
 obtain⟨R,b7⟩:∃R,partition ltInt d a b N=R:=⟨_,rfl⟩
 rw[b7]
 have bi:=aa b7
 clear J bb b7 ci a5 cp b8 hi cn
 go_enter Tryz.func224,Tryz.ntmps224
 go_upto_region 1 with fail
 go_cut [] (fun a5=>aL w a5 E cap u)
 case first=>
  by_cases c8:N=a
  ·subst c8;go_region;all_goals go_wp2_with fail
   all_goals go_meet
   all_goals(rw[a1.out];exact cd.out 1)
  ·have a5:¬a=N:=(by omega);go_region;all_goals go_wp2_with fail
   all_goals go_meet
   all_goals(rw[a1.out];exact cd.out 1)
 case rest=>
  clear c2 c3 c4 c5;have bn:=aa hcut;clear hcut;obtain⟨h,bc⟩:∃h:Nat→Int,∀Q,h Q=u[Q]!:=⟨fun Q=>u[Q]!,fun _=>rfl⟩;have D:=aa bc;clear bc;go_wp2_with fail;rw[show(b:Int)-1=(j:Int) by have:=a'.out;omega,show(a:Int)+1=(i:Int) by have:=a9.out;omega];go_loopg [10] (j+1) (fun Y be ah=>∃t:Nat,j+1-t≤Y∧be=.int .i64 (t:Int)∧i≤t∧t≤j+1∧aL w ah E cap u∧scanUp (fun x=>ltInt x u[a]!) u j t=scanUp (fun x=>ltInt x u[a]!) u j i)
  case atStart=>exact⟨i,by omega,rfl,by omega,b0,bn.out,rfl⟩
  case round=>
   obtain⟨t,c7,rfl,cl,a3,O,bd⟩:=hrel;have z:=aa O;have V:=aa bd;clear O bd;have am:wr.cell? ⟨E,a,none⟩=some (.int .u32 (h a)):=(by rw[D.out];exact z.out.row.cell a (by rw[I.out];omega));by_cases a4:t≤j
   ·have a2:wr.cell? ⟨E,t,none⟩=some (.int .u32 (h t)):=(by rw[D.out];exact z.out.row.cell t (by rw[I.out];omega));have cD:(t:Int)<(len:Int):=(by omega);have a6:(t:Int)≤(j:Int):=(by omega);rcases eC (ltInt (h t) (h a))with Z|Z
    ·have al:Hid (scanUp (fun x=>ltInt x u[a]!) u j i=t):=aa (by rw[←V.out];exact jr _ u j t (Or.inr (by rw[←D.out,←D.out];exact Z)));go_wp2_with fail;go_quiet ((go_at_call 222;exact aU (aV _ _ _)));go_wp2;have ay:=aa (z.out.drewN nq);have bh:=aa Z;clear am a2 z V Z;go_loopg [11] (j+1) (fun Y ax ah=>∃s:Nat,s≤Y∧ax=.int .i64 (s:Int)∧s≤j∧t≤s+1∧aL w ah E cap u∧scanDown (fun x=>!ltInt x u[a]!) u t s=scanDown (fun x=>!ltInt x u[a]!) u t j)
     case atStart=>exact⟨j,by omega,rfl,by omega,a3,ay.out,rfl⟩
     case round=>
      obtain⟨s,b9,rfl,b2,b1,O,ad⟩:=hrel;have z:=aa O;have U:=aa ad;clear O ad;have am:wr.cell? ⟨E,a,none⟩=some (.int .u32 (h a)):=(by rw[D.out];exact z.out.row.cell a (by rw[I.out];omega));have b4:(s:Int)<(len:Int):=(by omega);have bv:wr.cell? ⟨E,s,none⟩=some (.int .u32 (h s)):=(by rw[D.out];exact z.out.row.cell s (by rw[I.out];omega));have bw:wr.frozen? ⟨E,s,none⟩=false:=z.out.row.frozen s;by_cases aw:t≤s
      ·have a7:(t:Int)≤(s:Int):=(by omega);rcases eC (ltInt (h s) (h a))with av|av
       ·have a0:Hid (scanDown (fun x=>!ltInt x u[a]!) u t (s-1)=scanDown (fun x=>!ltInt x u[a]!) u t j):=aa (by rw[←U.out];exact lG _ u t s aw (by omega) (by rw[←D.out,←D.out,av];rfl));go_wp2_with fail;go_quiet ((go_at_call 222;exact aU (aV _ _ _)));go_wp2;go_roundg (gk-1)
        case rel=>exact⟨s-1,by omega,by congr 1;omega,by omega,by omega,z.out.drewN nq,a0.out⟩
        case measure=>omega
       ·have T:Hid (scanDown (fun x=>!ltInt x u[a]!) u t j=s):=aa (by rw[←U.out];exact gJ _ u t s (Or.inr (by rw[←D.out,←D.out,av];rfl)));have b3:¬s=t:=fun e=>(by have ba:=bh.out;rw[←e,av]at ba;cases ba);have cx:¬t=s:=fun e=>b3 e.symm;have a2:wr.cell? ⟨E,t,none⟩=some (.int .u32 (h t)):=(by rw[D.out];exact z.out.row.cell t (by rw[I.out];omega));have cf:wr.frozen? ⟨E,t,none⟩=false:=z.out.row.frozen t;have a8:(t:Int)<(len:Int):=(by omega);have c0:¬(s:Int)<(t:Int):=(by omega);have c1:¬s<t:=(by omega);have J:=fun n=>z.out.b8 n t s (by rw[I.out];omega) (by rw[I.out];omega);rw[←D.out,←D.out]at J;have bt:=aa J;clear J;go_wp2_with fail;go_quiet ((go_at_call 222;exact aU (aV _ _ _)));go_wp2;go_region;all_goals go_wp2_with fail
        have cb:Hid (R=my a (partLoop ltInt a (t+1) (s-1) (swp u t s))):=aa (by rw[←bi.out];exact xg d a b N a1.out a9.out a'.out al.out T.out (by omega));have ce:=aa (bt.out (nq+1));have cc:Hid ((swp u t s).size=len):=aa (by rw[size_swp];exact I.out);have cy:a<t+1:=(by omega);have cz:t+1≤s-1+1:=(by omega);have cB:s-1<b:=(by omega);have c':0<s:=(by omega);clear am bv bw a2 cf;go_loopg [10,11] (b+1) (fun gk be ax wr=>∃(i j:Nat) (u:Array Int),j+1-i≤gk∧be=.int .i64 (i:Int)∧ax=.int .i64 (j:Int)∧a<i∧i≤j+1∧j<b∧u.size=len∧aL w wr E cap u∧R=my a (partLoop ltInt a i j u))
        case atStart=>exact⟨t+1,s-1,_,by omega,by go_num,by congr 1;omega,cy,cz,cB,cc.out,ce.out,cb.out⟩
        case round=>
         clear ce cc cb bt T al I D bn z ay U bh a1 a9 a' bi b3 cx a8 c0 c1 b4 a7 a6 cD cy cz cB c' av a4 aw b1 b2 a3 cl b0 cj co;obtain⟨i,j,u,dk,rfl,rfl,cj,b0,co,cv,hS,ch⟩:=hrel;have bn:=aa hS;have b5:=aa ch;have I:=aa cv;obtain⟨c6,rfl⟩:∃x:Nat,x=gk:=⟨_,rfl⟩;obtain⟨dB,rfl⟩:∃x:World,x=wr:=⟨_,rfl⟩;obtain⟨h,bc⟩:∃h:Nat→Int,∀Q,h Q=u[Q]!:=⟨fun Q=>u[Q]!,fun _=>rfl⟩;have D:=aa bc;clear hS ch cv bc;go_wp2_with fail;go_loopg [10] (j+1) (fun Y be ah=>∃t:Nat,j+1-t≤Y∧be=.int .i64 (t:Int)∧i≤t∧t≤j+1∧aL w ah E cap u∧scanUp (fun x=>ltInt x u[a]!) u j t=scanUp (fun x=>ltInt x u[a]!) u j i)
         case atStart=>exact⟨i,by omega,rfl,by omega,b0,bn.out,rfl⟩
         case round=>
          obtain⟨t,c7,rfl,cl,a3,O,bd⟩:=hrel;have z:=aa O;have V:=aa bd;clear O bd;have am:wr.cell? ⟨E,a,none⟩=some (.int .u32 (h a)):=(by rw[D.out];exact z.out.row.cell a (by rw[I.out];omega));by_cases a4:t≤j
          ·have a2:wr.cell? ⟨E,t,none⟩=some (.int .u32 (h t)):=(by rw[D.out];exact z.out.row.cell t (by rw[I.out];omega));have cD:(t:Int)<(len:Int):=(by omega);have a6:(t:Int)≤(j:Int):=(by omega);rcases eC (ltInt (h t) (h a))with Z|Z
           ·have al:Hid (scanUp (fun x=>ltInt x u[a]!) u j i=t):=aa (by rw[←V.out];exact jr _ u j t (Or.inr (by rw[←D.out,←D.out];exact Z)));go_wp2_with fail;go_quiet ((go_at_call 222;exact aU (aV _ _ _)));go_wp2;have ay:=aa (z.out.drewN nq);have bh:=aa Z;clear am a2 z V Z;go_loopg [11] (j+1) (fun Y ax ah=>∃s:Nat,s≤Y∧ax=.int .i64 (s:Int)∧s≤j∧t≤s+1∧aL w ah E cap u∧scanDown (fun x=>!ltInt x u[a]!) u t s=scanDown (fun x=>!ltInt x u[a]!) u t j)
            case atStart=>exact⟨j,by omega,rfl,by omega,a3,ay.out,rfl⟩
            case round=>
             obtain⟨s,b9,rfl,b2,b1,O,ad⟩:=hrel;have z:=aa O;have U:=aa ad;clear O ad;have am:wr.cell? ⟨E,a,none⟩=some (.int .u32 (h a)):=(by rw[D.out];exact z.out.row.cell a (by rw[I.out];omega));have b4:(s:Int)<(len:Int):=(by omega);have bv:wr.cell? ⟨E,s,none⟩=some (.int .u32 (h s)):=(by rw[D.out];exact z.out.row.cell s (by rw[I.out];omega));have bw:wr.frozen? ⟨E,s,none⟩=false:=z.out.row.frozen s;by_cases aw:t≤s
             ·have a7:(t:Int)≤(s:Int):=(by omega);rcases eC (ltInt (h s) (h a))with av|av
              ·have a0:Hid (scanDown (fun x=>!ltInt x u[a]!) u t (s-1)=scanDown (fun x=>!ltInt x u[a]!) u t j):=aa (by rw[←U.out];exact lG _ u t s aw (by omega) (by rw[←D.out,←D.out,av];rfl));go_wp2_with fail;go_quiet ((go_at_call 222;exact aU (aV _ _ _)));go_wp2;go_roundg (gk-1)
               case rel=>exact⟨s-1,by omega,by congr 1;omega,by omega,by omega,z.out.drewN nq,a0.out⟩
               case measure=>omega
              ·have T:Hid (scanDown (fun x=>!ltInt x u[a]!) u t j=s):=aa (by rw[←U.out];exact gJ _ u t s (Or.inr (by rw[←D.out,←D.out,av];rfl)));have b3:¬s=t:=fun e=>(by have ba:=bh.out;rw[←e,av]at ba;cases ba);have cx:¬t=s:=fun e=>b3 e.symm;have a2:wr.cell? ⟨E,t,none⟩=some (.int .u32 (h t)):=(by rw[D.out];exact z.out.row.cell t (by rw[I.out];omega));have cf:wr.frozen? ⟨E,t,none⟩=false:=z.out.row.frozen t;have a8:(t:Int)<(len:Int):=(by omega);have c0:¬(s:Int)<(t:Int):=(by omega);have c1:¬s<t:=(by omega);have J:=fun n=>z.out.b8 n t s (by rw[I.out];omega) (by rw[I.out];omega);rw[←D.out,←D.out]at J;have bt:=aa J;clear J;go_wp2_with fail;go_quiet ((go_at_call 222;exact aU (aV _ _ _)));go_wp2;go_region;all_goals go_wp2_with fail
               go_roundg (c6-1)
               case rel=>exact⟨t+1,s-1,_,by omega,by go_num,by congr 1;omega,by omega,by omega,by omega,by rw[size_swp];exact I.out,bt.out (nq+1),by rw[xw a i j u al.out T.out (by omega)];exact b5.out⟩
               case measure=>omega
             ·skip
              have T:Hid (scanDown (fun x=>!ltInt x u[a]!) u t j=s):=aa (by rw[←U.out];exact gJ _ u t s (Or.inl aw));have a7:decide ((t:Int)≤(s:Int))=false:=bQ (by omega);have a8:(s:Int)<(t:Int):=(by omega);have b6:wr.frozen? ⟨E,a,none⟩=false:=z.out.row.frozen a;have X:Hid (R=(s,false,swp u s a)):=aa (by rw[b5.out,pc a i j u al.out T.out (by omega)];rfl)
              have J:=fun n=>z.out.b8 n s a (by rw[I.out];omega) (by rw[I.out];omega);rw[←D.out,←D.out]at J;have W:=aa J;clear J;by_cases ab:s=a
              ·subst ab;go_wp2_with fail;go_quiet ((go_at_call 222;exact aU (aV _ _ _)));go_wp2;go_region;all_goals go_wp2
               all_goals refine an (results_tmp2 rfl _ _ _) rfl ?_
               all_goals(rw[X.out];exact⟨rfl,W.out (nq+1)⟩)
              ·have ca:¬a=s:=fun e=>ab e.symm;go_wp2_with fail;go_quiet ((go_at_call 222;exact aU (aV _ _ _)));go_wp2;go_region;all_goals go_wp2
               all_goals refine an (results_tmp2 rfl _ _ _) rfl ?_
               all_goals(rw[X.out];exact⟨rfl,W.out (nq+1)⟩)
           ·have a0:Hid (scanUp (fun x=>ltInt x u[a]!) u j (t+1)=scanUp (fun x=>ltInt x u[a]!) u j i):=aa (by rw[←V.out];exact mS _ u j t a4 (by rw[←D.out,←D.out];exact Z));go_wp2_with fail;go_quiet ((go_at_call 222;exact aU (aV _ _ _)));go_wp2;go_roundg (gk-1)
            case rel=>exact⟨t+1,by omega,by go_num,by omega,by omega,z.out.drewN nq,a0.out⟩
            case measure=>omega
          ·have al:Hid (scanUp (fun x=>ltInt x u[a]!) u j i=t):=aa (by rw[←V.out];exact jr _ u j t (Or.inl a4));have a6:decide ((t:Int)≤(j:Int))=false:=bQ (by omega);go_wp2_with fail;go_quiet ((go_at_call 222;exact aU (aV _ _ _)));go_wp2;have ay:=aa (z.out.drewN nq);clear am z V a6;go_loopg [11] (j+1) (fun Y ax ah=>∃s:Nat,s≤Y∧ax=.int .i64 (s:Int)∧s≤j∧t≤s+1∧aL w ah E cap u∧scanDown (fun x=>!ltInt x u[a]!) u t s=scanDown (fun x=>!ltInt x u[a]!) u t j)
           case atStart=>exact⟨j,by omega,rfl,by omega,a3,ay.out,rfl⟩
           case round=>
            obtain⟨s,b9,rfl,b2,b1,O,ad⟩:=hrel;have z:=aa O;have U:=aa ad;clear O ad;have am:wr.cell? ⟨E,a,none⟩=some (.int .u32 (h a)):=(by rw[D.out];exact z.out.row.cell a (by rw[I.out];omega));have b4:(s:Int)<(len:Int):=(by omega);have bv:wr.cell? ⟨E,s,none⟩=some (.int .u32 (h s)):=(by rw[D.out];exact z.out.row.cell s (by rw[I.out];omega));have bw:wr.frozen? ⟨E,s,none⟩=false:=z.out.row.frozen s;by_cases aw:t≤s;·exfalso;omega
            ·skip
             have T:Hid (scanDown (fun x=>!ltInt x u[a]!) u t j=s):=aa (by rw[←U.out];exact gJ _ u t s (Or.inl aw));have a7:decide ((t:Int)≤(s:Int))=false:=bQ (by omega);have a8:(s:Int)<(t:Int):=(by omega);have b6:wr.frozen? ⟨E,a,none⟩=false:=z.out.row.frozen a;have X:Hid (R=(s,false,swp u s a)):=aa (by rw[b5.out,pc a i j u al.out T.out (by omega)];rfl)
             have J:=fun n=>z.out.b8 n s a (by rw[I.out];omega) (by rw[I.out];omega);rw[←D.out,←D.out]at J;have W:=aa J;clear J;by_cases ab:s=a
             ·subst ab;go_wp2_with fail;go_quiet ((go_at_call 222;exact aU (aV _ _ _)));go_wp2;go_region;all_goals go_wp2
              all_goals refine an (results_tmp2 rfl _ _ _) rfl ?_
              all_goals(rw[X.out];exact⟨rfl,W.out (nq+1)⟩)
             ·have ca:¬a=s:=fun e=>ab e.symm;go_wp2_with fail;go_quiet ((go_at_call 222;exact aU (aV _ _ _)));go_wp2;go_region;all_goals go_wp2
              all_goals refine an (results_tmp2 rfl _ _ _) rfl ?_
              all_goals(rw[X.out];exact⟨rfl,W.out (nq+1)⟩)
      ·skip
       have T:Hid (scanDown (fun x=>!ltInt x u[a]!) u t j=s):=aa (by rw[←U.out];exact gJ _ u t s (Or.inl aw));have a7:decide ((t:Int)≤(s:Int))=false:=bQ (by omega);have a8:(s:Int)<(t:Int):=(by omega);have b6:wr.frozen? ⟨E,a,none⟩=false:=z.out.row.frozen a;have X:Hid (R=(s,true,swp u s a)):=aa (by rw[←bi.out];exact o8 d a b N a1.out a9.out a'.out al.out T.out (by omega));have J:=fun n=>z.out.b8 n s a (by rw[I.out];omega) (by rw[I.out];omega);rw[←D.out,←D.out]at J;have W:=aa J;clear J;by_cases ab:s=a
       ·subst ab;go_wp2_with fail;go_quiet ((go_at_call 222;exact aU (aV _ _ _)));go_wp2;go_region;all_goals go_wp2
        all_goals refine an (results_tmp2 rfl _ _ _) rfl ?_
        all_goals(rw[X.out];exact⟨rfl,W.out (nq+1)⟩)
       ·have ca:¬a=s:=fun e=>ab e.symm;go_wp2_with fail;go_quiet ((go_at_call 222;exact aU (aV _ _ _)));go_wp2;go_region;all_goals go_wp2
        all_goals refine an (results_tmp2 rfl _ _ _) rfl ?_
        all_goals(rw[X.out];exact⟨rfl,W.out (nq+1)⟩)
    ·have a0:Hid (scanUp (fun x=>ltInt x u[a]!) u j (t+1)=scanUp (fun x=>ltInt x u[a]!) u j i):=aa (by rw[←V.out];exact mS _ u j t a4 (by rw[←D.out,←D.out];exact Z));go_wp2_with fail;go_quiet ((go_at_call 222;exact aU (aV _ _ _)));go_wp2;go_roundg (gk-1)
     case rel=>exact⟨t+1,by omega,by go_num,by omega,by omega,z.out.drewN nq,a0.out⟩
     case measure=>omega
   ·have al:Hid (scanUp (fun x=>ltInt x u[a]!) u j i=t):=aa (by rw[←V.out];exact jr _ u j t (Or.inl a4));have a6:decide ((t:Int)≤(j:Int))=false:=bQ (by omega);go_wp2_with fail;go_quiet ((go_at_call 222;exact aU (aV _ _ _)));go_wp2;have ay:=aa (z.out.drewN nq);clear am z V a6;go_loopg [11] (j+1) (fun Y ax ah=>∃s:Nat,s≤Y∧ax=.int .i64 (s:Int)∧s≤j∧t≤s+1∧aL w ah E cap u∧scanDown (fun x=>!ltInt x u[a]!) u t s=scanDown (fun x=>!ltInt x u[a]!) u t j)
    case atStart=>exact⟨j,by omega,rfl,by omega,a3,ay.out,rfl⟩
    case round=>
     obtain⟨s,b9,rfl,b2,b1,O,ad⟩:=hrel;have z:=aa O;have U:=aa ad;clear O ad;have am:wr.cell? ⟨E,a,none⟩=some (.int .u32 (h a)):=(by rw[D.out];exact z.out.row.cell a (by rw[I.out];omega));have b4:(s:Int)<(len:Int):=(by omega);have bv:wr.cell? ⟨E,s,none⟩=some (.int .u32 (h s)):=(by rw[D.out];exact z.out.row.cell s (by rw[I.out];omega));have bw:wr.frozen? ⟨E,s,none⟩=false:=z.out.row.frozen s;by_cases aw:t≤s;·exfalso;omega
     ·skip
      have T:Hid (scanDown (fun x=>!ltInt x u[a]!) u t j=s):=aa (by rw[←U.out];exact gJ _ u t s (Or.inl aw));have a7:decide ((t:Int)≤(s:Int))=false:=bQ (by omega);have a8:(s:Int)<(t:Int):=(by omega);have b6:wr.frozen? ⟨E,a,none⟩=false:=z.out.row.frozen a;have X:Hid (R=(s,true,swp u s a)):=aa (by rw[←bi.out];exact o8 d a b N a1.out a9.out a'.out al.out T.out (by omega));have J:=fun n=>z.out.b8 n s a (by rw[I.out];omega) (by rw[I.out];omega);rw[←D.out,←D.out]at J;have W:=aa J;clear J;by_cases ab:s=a
      ·subst ab;go_wp2_with fail;go_quiet ((go_at_call 222;exact aU (aV _ _ _)));go_wp2;go_region;all_goals go_wp2
       all_goals refine an (results_tmp2 rfl _ _ _) rfl ?_
       all_goals(rw[X.out];exact⟨rfl,W.out (nq+1)⟩)
      ·have ca:¬a=s:=fun e=>ab e.symm;go_wp2_with fail;go_quiet ((go_at_call 222;exact aU (aV _ _ _)));go_wp2;go_region;all_goals go_wp2
       all_goals refine an (results_tmp2 rfl _ _ _) rfl ?_
       all_goals(rw[X.out];exact⟨rfl,W.out (nq+1)⟩)
end Go.Proofs.YtafkamlhimkbmaaGreat
