/-
  slices.Sort at uint32, part 6: bits.Len, nextPowerOfTwo, xorshift.Next, breakPatternsOrdered.
-/
import Derived.Test.YtafkamlhimkbmaaGreatPSortA
import Derived.Lib.Tables
import Derived.Lib.BitFns
import Derived.OpenShut
import Derived.Laws.BitsAll
import Derived.Laws.Bits64b
import Derived.Sort.LotC
import Derived.Sort.LotD3
namespace Go.Proofs.YtafkamlhimkbmaaGreat
set_option maxRecDepth 1000000
set_option maxHeartbeats 8000000
set_option linter.unusedSimpArgs false
set_option linter.unusedVariables false
open Go.RowKit Go.Sort
theorem qt:∀(f x:Nat),x<2 ^ f→x<2 ^ Lib.bitLenAux f x
 |0,x,h=>by simpa[Lib.bitLenAux]using h
 |f+1,x,h=>by
  unfold Lib.bitLenAux;split;·omega
  ·have:=qt f (x / 2) (by rw[dd]at h;omega);rw[kT 1,dd];omega
theorem bitLen_le:∀(f x:Nat),0<x→2 ^ Lib.bitLenAux f x≤2*x
 |0,x,h=>by simp[Lib.bitLenAux];omega
 |f+1,x,h=>by
  unfold Lib.bitLenAux;split;·omega
  ·rw[kT 1,dd];by_cases j:x / 2=0
   ·rw[j];have:Lib.bitLenAux f 0=0:=by cases f<;>simp[Lib.bitLenAux]
    rw[this];omega
   ·have:=bitLen_le f (x / 2) (by omega);omega
def uD (x:Int)(r:Nat):Prop:=r≤21∧x.toNat<2 ^ r∧2 ^ r≤2*x.toNat
theorem oN (x:Int)(j:0<x)(q:x≤1048576):uD x (Lib.bitLen x.toNat):=by
 have a:=qt 64 x.toNat (by have:(2:Nat) ^ 64=18446744073709551616:=rfl;omega);have b:=bitLen_le 64 x.toNat (by omega);refine⟨Nat.le_of_not_lt fun h=>?_,a,b⟩;have:2 ^ 22≤2 ^ Lib.bitLen x.toNat:=aW (by decide) h;have e:(2:Nat) ^ 22=4194304:=rfl;have b':2 ^ Lib.bitLen x.toNat≤2*x.toNat:=b;omega
theorem qP (k:Nat)(d:Int)(j:0≤d)(q:d≤255)(s:k≤16):wrap64 ((k:Int)+wrap64 (Lib.len8 d))=((k+Lib.bitLen d.toNat:Nat):Int):=by
 rw[Lib.len8_of d j q];have:=Lib.bitLen_le8' d j q;unfold wrap64;omega
theorem xK (x:Int)(j:0≤x)(q:x≤255):wrap64 (wrap64 (Lib.len8 x))=(Lib.bitLen x.toNat:Int):=by
 rw[Lib.len8_of x j q];have:=Lib.bitLen_le8' x j q;unfold wrap64;omega
theorem xL (x:Int)(j:256≤x)(q:x≤65535):wrap64 (8+wrap64 (Lib.len8 (x / 256)))=(Lib.bitLen x.toNat:Int):=by
 rw[Lib.bitLen_shift8 x.toNat (by omega) (by omega),show x.toNat / 256=(x / 256).toNat by omega];exact qP 8 (x / 256) (by omega) (by omega) (by decide)
theorem xM (x:Int)(j:65536≤x)(q:x≤1048576):wrap64 (16+wrap64 (Lib.len8 (x / 65536)))=(Lib.bitLen x.toNat:Int):=by
 rw[Lib.bitLen_shift16 x.toNat (by omega) (by omega),show x.toNat / 65536=(x / 65536).toNat by omega];exact qP 16 (x / 65536) (by omega) (by omega) (by decide)
theorem rO (x:Int)(w:World)(j:0≤x)(q:x≤255):Calls Tryz.prog 226 #[.int .u64 x] w fun e w'=>e=.returned (.int .i64 (Lib.bitLen x.toNat))∧w'=w:=by
 have s:=Tryz.underlying9;have s:0≤x:=by omega
 have s:x≤255:=by omega
 have F:=aa (xK x j q);go_enter Tryz.func226,Tryz.ntmps226;go_wp2;all_goals go_ret
 all_goals exact⟨congrArg Ending.returned (congrArg (Value.int IntKind.i64) F.out),rfl⟩
theorem zm (x:Int)(w:World)(j:256≤x)(q:x≤65535):Calls Tryz.prog 226 #[.int .u64 x] w fun e w'=>e=.returned (.int .i64 (Lib.bitLen x.toNat))∧w'=w:=by
 have s:=Tryz.underlying9;have s:0≤x / 256:=by omega
 have s:x / 256≤255:=by omega
 have F:=aa (xL x j q);go_enter Tryz.func226,Tryz.ntmps226;go_wp2;all_goals go_ret
 all_goals exact⟨congrArg Ending.returned (congrArg (Value.int IntKind.i64) F.out),rfl⟩
theorem zn (x:Int)(w:World)(j:65536≤x)(q:x≤1048576):Calls Tryz.prog 226 #[.int .u64 x] w fun e w'=>e=.returned (.int .i64 (Lib.bitLen x.toNat))∧w'=w:=by
 have s:=Tryz.underlying9;have s:0≤x / 65536:=by omega
 have s:x / 65536≤255:=by omega
 have F:=aa (xM x j q);go_enter Tryz.func226,Tryz.ntmps226;go_wp2;all_goals go_ret
 all_goals exact⟨congrArg Ending.returned (congrArg (Value.int IntKind.i64) F.out),rfl⟩
theorem zo (x:Int)(w:World)(j:0<x)(q:x≤1048576):Calls Tryz.prog 226 #[.int .u64 x] w fun e w'=>e=.returned (.int .i64 (Lib.bitLen x.toNat))∧w'=w:=by
 by_cases j:x≤255;·exact rO x w (by omega) j
 ·by_cases j:x≤65535;·exact zm x w (by omega) j
  ·exact zn x w (by omega) q
theorem rP (x:Int)(w:World)(q:0<x)(s:x≤1048576):Calls Tryz.prog 179 #[.int .u64 x] w fun e w'=>e=.returned (.int .i64 (Lib.bitLen x.toNat))∧w'=w:=by
 have j:=aa (zo x w q s);go_enter Tryz.func179,Tryz.ntmps179;go_wp2_with (go_at_call 226;refine j.out.mono ?_;rintro e w' ⟨rfl,rfl⟩)
 go_ret;exact⟨rfl,rfl⟩
theorem AM (x:Int)(w:World)(s:0<x)(t:x≤1048576):Calls Tryz.prog 252 #[.int .i64 x] w fun e w'=>e=.returned (.int .u64 (2 ^ Lib.bitLen x.toNat:Nat))∧w'=w:=by
 have q:=aa (rP x w s t);have j:=oN x s t;obtain⟨r,B⟩:∃r,r=Lib.bitLen x.toNat:=⟨_,rfl⟩;rw[←B]at j q ⊢;clear B;go_enter Tryz.func252,Tryz.ntmps252;go_wp2_with (go_at_call 179;refine q.out.mono ?_;rintro e w' ⟨rfl,rfl⟩)
 go_ret
 have I:IntKind.u64.wrap ((2:Int) ^ min r 64)=((2 ^ r:Nat):Int):=by
  have z:(2:Nat) ^ r≤2 ^ 21:=aW (by decide) j.1;have E:(2:Nat) ^ 21=2097152:=rfl;have A:((2 ^ r:Nat):Int)=(2:Int) ^ r:=by push_cast;rfl
  rw[Nat.min_eq_left (by have:=j.1;omega),IntKind.wrap_u64,←A];rw[E]at z;clear A;generalize (2:Nat) ^ r=j at z ⊢;omega
 exact⟨congrArg Ending.returned (congrArg (Value.int IntKind.u64) I),rfl⟩
structure lV (w w':World)(sb:Nat)(n:Int):Prop where
 av:af (fun k=>k=sb) w w'
 cell:w'.cell? ⟨sb,0,none⟩=some (.int .u64 n)
 free:w'.frozen? ⟨sb,0,none⟩=false
theorem wf_u64 {n:Int}(h:(Lit.int .u64 n).wf=true):0≤n∧n≤18446744073709551615:=by
 unfold Lit.wf at h;simp only[bT,bC]at h;exact h
theorem El (sb:Nat)(n:Int)(w:World)(aw:w.cell? ⟨sb,0,none⟩=some (.int .u64 n))(a0:w.frozen? ⟨sb,0,none⟩=false)(a6:0≤n)(a3:n≤18446744073709551615) :
  Calls Tryz.prog 253 #[.pointer (some ⟨sb,0,none⟩)] w fun e w'=>∃m:Int,e=.returned (.int .u64 m)∧0≤m∧m≤18446744073709551615∧lV w w' sb m:=by
 go_enter Tryz.func253,Tryz.ntmps253
 go_wp2_with fail
 go_region
 obtain⟨j,E⟩:∃v,v=bits BinOp.xor IntKind.u64 n (IntKind.u64.wrap (n*8192)):=⟨_,rfl⟩
 have W:0≤j∧j≤18446744073709551615:=by rw[E];exact wf_u64 (Go.wf_bits .xor .u64 _ _)
 rw[←E]
 obtain⟨w1,L⟩:∃x,x=(w.setCell ⟨sb,0,none⟩ (.int .u64 j)).drew:=⟨_,rfl⟩
 have z:lV w w1 sb j:=by
  rw[L];exact⟨((af.refl (fun k=>k=sb) w).setCell (p:=⟨sb,0,none⟩) (Or.inl rfl) _).drew,by simp[go_sem,aw],by show World.frozen? (w.setCell _ _) _=_;rw[cq];exact a0⟩
 rw[←L]
 clear L E
 obtain⟨L,E⟩:=W
 have Z:=z.cell
 have al:=z.free
 have S:=aa z
 clear z
 go_wp2_with fail
 go_region
 obtain⟨q,I⟩:∃v,v=bits BinOp.xor IntKind.u64 j (j / 128):=⟨_,rfl⟩
 have X:0≤q∧q≤18446744073709551615:=by rw[I];exact wf_u64 (Go.wf_bits .xor .u64 _ _)
 rw[←I]
 obtain⟨t,N⟩:∃x,x=(w1.setCell ⟨sb,0,none⟩ (.int .u64 q)).drew:=⟨_,rfl⟩
 have A:lV w1 t sb q:=by
  rw[N];exact⟨((af.refl (fun k=>k=sb) w1).setCell (p:=⟨sb,0,none⟩) (Or.inl rfl) _).drew,by simp[go_sem,Z],by show World.frozen? (w1.setCell _ _) _=_;rw[cq];exact al⟩
 rw[←N]
 clear N I
 obtain⟨a3,j⟩:=X
 have ab:=A.cell
 have am:=A.free
 have T:=aa A
 clear A
 go_wp2_with fail
 go_region
 obtain⟨s,J⟩:∃v,v=bits BinOp.xor IntKind.u64 q (IntKind.u64.wrap (q*131072)):=⟨_,rfl⟩
 have Y:0≤s∧s≤18446744073709551615:=by rw[J];exact wf_u64 (Go.wf_bits .xor .u64 _ _)
 rw[←J]
 obtain⟨a5,O⟩:∃x,x=(t.setCell ⟨sb,0,none⟩ (.int .u64 s)).drew:=⟨_,rfl⟩
 have B:lV t a5 sb s:=by
  rw[O];exact⟨((af.refl (fun k=>k=sb) t).setCell (p:=⟨sb,0,none⟩) (Or.inl rfl) _).drew,by simp[go_sem,ab],by show World.frozen? (t.setCell _ _) _=_;rw[cq];exact am⟩
 rw[←O]
 clear O J
 obtain⟨a4,a1⟩:=Y
 have ad:=B.cell
 have av:=B.free
 have U:=aa B
 clear B
 go_wp2
 go_ret
 exact⟨s,rfl,a4,a1,(S.out.av.bg T.out.av).bg U.out.av,ad,av⟩
theorem uU (m:Int)(c:Nat)(j:0≤m)(s:m≤18446744073709551615)(q:c<18446744073709551616):0≤bits BinOp.and IntKind.u64 m (c:Int)∧bits BinOp.and IntKind.u64 m (c:Int)≤(c:Int):=by
 obtain⟨k,rfl⟩:=Int.eq_ofNat_of_zero_le j;rw[bits_and_u64_nat k c (by omega) q];have:=Nat.and_le_right (n:=k) (m:=c);omega
theorem wu (q cap len a b:Nat)(d:Array Int)(w:World)(a6:bP w q cap d)(bi:d.size=len)(bv:a+13≤b)(am:b≤len)(b4:len≤1048576) :
  Calls Tryz.prog 218 #[.slice (some ⟨q,0,none⟩) len cap,.int .i64 a,.int .i64 b] w fun e w'=>
   e=.returned (.tuple #[])∧∃d',PermIn a b d d'∧aH w w' q cap d':=by
 have a4:q≠w.heap.size:=by have:=a6.lt;omega
 obtain⟨A,bn⟩:∃A:Nat,A=(b-a) / 4:=⟨_,rfl⟩
 have bv:3≤A:=by omega
 have bv:4*A≤b-a:=by omega
 have bp:((b:Int)-(a:Int)) / 4=(A:Int):=by omega
 have bv:(8:Int)≤(b:Int)-(a:Int):=by omega
 have al:=oN ((b:Int)-(a:Int)) (by omega) (by omega)
 have a0:=aa (fun bv=>AM ((b:Int)-(a:Int)) bv (by omega) (by omega))
 obtain⟨r,bq⟩:∃r,r=Lib.bitLen ((b:Int)-(a:Int)).toNat:=⟨_,rfl⟩
 rw[←bq]at al a0
 clear bq
 obtain⟨J,av⟩:∃J:Nat,J=2 ^ r:=⟨_,rfl⟩
 rw[←av]at a0
 have bq:J≤2*(b-a):=by have:=al.2.2;rw[←av]at this;omega
 have bq:b-a<J:=by have:=al.2.1;rw[←av]at this;omega
 clear al av
 have al:=aa bn
 have bs:=aa a6
 have br:=aa bi
 clear bn a6 bi
 go_enter Tryz.func218,Tryz.ntmps218
 go_wp2_with (go_at_call 252;refine(a0.out _).mono ?_;rintro e w' ⟨rfl,rfl⟩)
 have bD:bP (w.alloc (.cells #[.int .u64 ((b:Int)-(a:Int))] 312)) q cap d:=bs.out.a4 (G:=fun _=>False) ((af.refl _ w).alloc _) (fun h=>h)
 have bd:=aa bp
 clear bp
 go_loopg [9] 3 (fun gk al wr=>∃(x:Nat) (s:Array Int) (v:Int),x+gk=a+2*A+2∧a+2*A≤x+1∧al=.int .i64 (x:Int)∧PermIn a b d s∧aH w wr q cap s∧wr.cell? ⟨w.heap.size,0,none⟩=some (.int .u64 v)∧wr.frozen? ⟨w.heap.size,0,none⟩=false∧0≤v∧v≤18446744073709551615∧w.heap.size<wr.heap.size)
 case atStart=>exact⟨a+2*A-1,d,(b:Int)-(a:Int),by omega,by omega,by congr 1;omega,permIn_refl _ _ _,⟨(af.refl _ w).alloc _,bD⟩,by simp[go_sem],by simp[go_sem],by omega,by omega,by simp⟩
 case round=>
  obtain⟨x,s,v,b3,b5,rfl,al,hS,av,a0,bi,bn,b1⟩:=hrel;have a6:s.size=len:=al.1.trans br.out;have E:=aa hS;have W:=aa al;have t:=aa a6;clear hS al a6;by_cases al:x≤a+2*A+1
  ·have bw:(x:Int)≤(a:Int)+((b:Int)-(a:Int)) / 4*2+1:=(by rw[bd.out];omega);have bt:=aa (El w.heap.size v wr av a0 bi bn);clear av a0;go_wp2_with fail;refine bt.out.mono ?_;rintro e w1 ⟨m,rfl,Y,Z,z⟩;have b0:¬w.heap.size=q:=fun h=>a4 h.symm
   have be:aH w w1 q cap s:=⟨⟨z.av.os.trans E.out.av.os,z.av.tape.trans E.out.av.tape,z.av.output.trans E.out.av.output,eF E.out.av.size z.av.size,fun k A al=>by
    rw[z.av.block k (bI A E.out.av.size) (by omega),E.out.av.block k A al]⟩,E.out.row.a4 z.av a4⟩
   have aw:w.heap.size<w1.heap.size:=bI b1 z.av.size
   have bf:∀(y av:Nat) (A al:Value) (n:Nat),(((w1.drewN n).setCell ⟨q,y,none⟩ A).setCell ⟨q,av,none⟩ al).cell? ⟨w.heap.size,0,none⟩=some (.int .u64 m)∧(((w1.drewN n).setCell ⟨q,y,none⟩ A).setCell ⟨q,av,none⟩ al).frozen? ⟨w.heap.size,0,none⟩=false:=by
    intro y av A al n;refine⟨?_,?_⟩;·simp[go_sem,b0,a4,z.cell]
    ·rw[cq,cq];exact z.free
   have I:=aa be;have B:=aa bf;clear be bf z;have a5:=uU m (J-1) Y Z (by omega);obtain⟨o,z⟩:=Int.eq_ofNat_of_zero_le a5.1;have A:o≤J-1:=(by have:=a5.2;rw[z]at this;omega);rw[show((J-1:Nat):Int)=(J:Int)-1 by omega]at z;clear a5;obtain⟨g,bg⟩:∃g:Nat→Int,∀j,g j=s[j]!:=⟨fun j=>s[j]!,fun _=>rfl⟩;have L:=aa bg;clear bg;have ab:w1.cell? ⟨q,x,none⟩=some (.int .u32 (g x)):=(by rw[L.out];exact I.out.row.cell x (by rw[t.out];omega));have ad:w1.frozen? ⟨q,x,none⟩=false:=I.out.row.frozen x;have rx:(x:Int)<(len:Int):=(by omega);by_cases z:b-a≤o
   ·obtain⟨j,a7⟩:∃j:Nat,j=o-(b-a):=⟨_,rfl⟩;have z:(o:Int)-((b:Int)-(a:Int))=(j:Int):=(by omega);have bx:(b:Int)-(a:Int)≤(o:Int):=(by omega);have b2:a+j<b:=(by omega);clear a7;have N:=fun n=>I.out.ca n x (a+j) (by rw[t.out];omega) (by rw[t.out];omega);rw[←L.out,←L.out]at N;have X:Hid (∀n,aH w (((w1.drewN n).setCell ⟨q,x,none⟩ (.int .u32 (g (a+j)))).setCell ⟨q,a+j,none⟩ (.int .u32 (g x))) q cap (swp s x (a+j))):=aa N;clear N;go_wp2_with fail;by_cases a8:x=a+j
    ·skip
     subst a8;have U:IntKind.i64.wrap ((a:Int)+(j:Int))=(a:Int)+(j:Int):=IntWalk.i64_in _ ⟨by omega,by omega⟩;have O:((a:Int)+(j:Int)).toNat=a+j:=(by omega);have S:(0:Int)≤(a:Int)+(j:Int):=(by omega);have T:(a:Int)+(j:Int)<(len:Int):=(by omega);go_region;clear U O S T ab ad;go_wp2;go_roundg (gk-1)
     case rel=>exact⟨a+j+1,_,m,by omega,by omega,by first|rfl|go_num,permIn_trans _ _ _ _ _ W.out (swp_permIn s a b (a+j) (a+j) (by omega) (by omega) (by omega) (by omega) (by rw[t.out];exact am)),X.out 1,(B.out _ _ _ _ 1).1,(B.out _ _ _ _ 1).2,Y,Z,by simp only[World.a5,au];exact aw⟩
     case measure=>omega
    ·skip
     have a':¬a+j=x:=(by omega);have bb:¬x=a+j:=(by omega);have a1:w1.cell? ⟨q,a+j,none⟩=some (.int .u32 (g (a+j))):=(by rw[L.out];exact I.out.row.cell (a+j) (by rw[t.out];omega));have a3:w1.frozen? ⟨q,a+j,none⟩=false:=I.out.row.frozen (a+j);have O:((a:Int)+(j:Int)).toNat=a+j:=(by omega);have S:(0:Int)≤(a:Int)+(j:Int):=(by omega);have T:(a:Int)+(j:Int)<(len:Int):=(by omega);have U:IntKind.i64.wrap ((a:Int)+(j:Int))=(a:Int)+(j:Int):=IntWalk.i64_in _ ⟨by omega,by omega⟩;go_region;clear U a' bb a1 a3 O S T ab ad;go_wp2;go_roundg (gk-1)
     case rel=>exact⟨x+1,_,m,by omega,by omega,by first|rfl|go_num,permIn_trans _ _ _ _ _ W.out (swp_permIn s a b x (a+j) (by omega) (by omega) (by omega) (by omega) (by rw[t.out];exact am)),X.out 1,(B.out _ _ _ _ 1).1,(B.out _ _ _ _ 1).2,Y,Z,by simp only[World.a5,au];exact aw⟩
     case measure=>omega
   ·obtain⟨j,a7⟩:∃j:Nat,j=o:=⟨_,rfl⟩;subst a7;have bx:¬(b:Int)-(a:Int)≤(j:Int):=(by omega);have b2:a+j<b:=(by omega);have N:=fun n=>I.out.ca n x (a+j) (by rw[t.out];omega) (by rw[t.out];omega);rw[←L.out,←L.out]at N;have X:Hid (∀n,aH w (((w1.drewN n).setCell ⟨q,x,none⟩ (.int .u32 (g (a+j)))).setCell ⟨q,a+j,none⟩ (.int .u32 (g x))) q cap (swp s x (a+j))):=aa N;clear N;go_wp2_with fail;by_cases a8:x=a+j
    ·skip
     subst a8;have U:IntKind.i64.wrap ((a:Int)+(j:Int))=(a:Int)+(j:Int):=IntWalk.i64_in _ ⟨by omega,by omega⟩;have O:((a:Int)+(j:Int)).toNat=a+j:=(by omega);have S:(0:Int)≤(a:Int)+(j:Int):=(by omega);have T:(a:Int)+(j:Int)<(len:Int):=(by omega);go_region;clear U O S T ab ad;go_wp2;go_roundg (gk-1)
     case rel=>exact⟨a+j+1,_,m,by omega,by omega,by first|rfl|go_num,permIn_trans _ _ _ _ _ W.out (swp_permIn s a b (a+j) (a+j) (by omega) (by omega) (by omega) (by omega) (by rw[t.out];exact am)),X.out 1,(B.out _ _ _ _ 1).1,(B.out _ _ _ _ 1).2,Y,Z,by simp only[World.a5,au];exact aw⟩
     case measure=>omega
    ·skip
     have a':¬a+j=x:=(by omega);have bb:¬x=a+j:=(by omega);have a1:w1.cell? ⟨q,a+j,none⟩=some (.int .u32 (g (a+j))):=(by rw[L.out];exact I.out.row.cell (a+j) (by rw[t.out];omega));have a3:w1.frozen? ⟨q,a+j,none⟩=false:=I.out.row.frozen (a+j);have O:((a:Int)+(j:Int)).toNat=a+j:=(by omega);have S:(0:Int)≤(a:Int)+(j:Int):=(by omega);have T:(a:Int)+(j:Int)<(len:Int):=(by omega);have U:IntKind.i64.wrap ((a:Int)+(j:Int))=(a:Int)+(j:Int):=IntWalk.i64_in _ ⟨by omega,by omega⟩;go_region;clear U a' bb a1 a3 O S T ab ad;go_wp2;go_roundg (gk-1)
     case rel=>exact⟨x+1,_,m,by omega,by omega,by first|rfl|go_num,permIn_trans _ _ _ _ _ W.out (swp_permIn s a b x (a+j) (by omega) (by omega) (by omega) (by omega) (by rw[t.out];exact am)),X.out 1,(B.out _ _ _ _ 1).1,(B.out _ _ _ _ 1).2,Y,Z,by simp only[World.a5,au];exact aw⟩
     case measure=>omega
  ·have bw:¬(x:Int)≤(a:Int)+((b:Int)-(a:Int)) / 4*2+1:=(by rw[bd.out];omega);go_wp2;first|go_end0|refine aq (results_none rfl _ _ _) rfl ?_
   exact⟨rfl,s,W.out,E.out⟩
theorem pS (p:Int→Bool)(d:Array Int)(j i:Nat)(h:i≤j)(q:p d[i]! = true):scanUp p d j (i+1) = scanUp p d j i:=by
 rw[scanUp.eq_1 p d j i,ah (by simp[h,q])]
theorem kL (p:Int→Bool)(d:Array Int)(j i:Nat)(h:¬i≤j∨p d[i]! = false):scanUp p d j i = i:=by
 rw[scanUp,ag (by rcases h with h|h<;>simp[h])]
theorem oh (p:Int→Bool)(d:Array Int)(i j:Nat)(h:i≤j)(s:0<j)(q:p d[j]! = true):scanDown p d i (j-1) = scanDown p d i j:=by
 obtain⟨k,rfl⟩:∃k,j=k+1:=⟨j-1,by omega⟩;rw[scanDown,ah (by simp[h,q])];rfl
theorem iE (p:Int→Bool)(d:Array Int)(i j:Nat)(h:¬i≤j∨p d[j]! = false):scanDown p d i j = j:=by
 cases j with
 |zero=>rfl
 |succ k=>rw[scanDown,ag (by rcases h with h|h<;>simp[h])]
theorem sI (a i s:Nat)(j:Array Int){q t:Nat}(z:scanUp (fun x=>!ltInt j[a]! x) j s i=q)(A:scanDown (fun x=>ltInt j[a]! x) j q s=t)(h:t<q):partEqLoop ltInt a i s j=(q,j):=by
 subst z;subst A;rw[partEqLoop_eq,ah h]
theorem AD (a i s:Nat)(j:Array Int){q t:Nat}(z:scanUp (fun x=>!ltInt j[a]! x) j s i=q)(A:scanDown (fun x=>ltInt j[a]! x) j q s=t)(h:¬q > t):partEqLoop ltInt a (q+1) (t-1) (swp j q t)=partEqLoop ltInt a i s j:=by
 subst z;subst A;rw[partEqLoop_eq ltInt a i s,ag h]
theorem AB (z cap len a b B:Nat)(d:Array Int)(w:World)(O:bP w z cap d)(bi:d.size=len)(cb:a≤B)(cf:B<b)(cc:b≤len)(cg:len≤1048576) :
  Calls Tryz.prog 223 #[.slice (some ⟨z,0,none⟩) len cap,.int .i64 a,.int .i64 b,.int .i64 B] w fun e w'=>
   e=.returned (.int .i64 (partitionEqual ltInt d a b B).1)∧aH w w' z cap (partitionEqual ltInt d a b B).2:=by
 have bd:=aH.self O
 have N:=fun n=>bd.ca n a B (by omega) (by omega)
 obtain⟨g,Y⟩:∃g:Nat→Int,∀J,g J=d[J]!:=⟨fun J=>d[J]!,fun _=>rfl⟩
 rw[←Y,←Y]at N
 have a7:=aa N
 have bD:Hid ((swp d a B).size=len):=aa (by rw[size_swp];exact bi)
 have b0:w.cell? ⟨z,a,none⟩=some (.int .u32 (g a)):=by rw[Y];exact O.cell a (by omega)
 have b1:w.cell? ⟨z,B,none⟩=some (.int .u32 (g B)):=by rw[Y];exact O.cell B (by omega)
 have b2:w.frozen? ⟨z,a,none⟩=false:=O.frozen a
 have b3:w.frozen? ⟨z,B,none⟩=false:=O.frozen B
 have cb:(a:Int)<(len:Int):=by omega
 have cb:(B:Int)<(len:Int):=by omega
 have a6:Hid (partitionEqual ltInt d a b B=partEqLoop ltInt a (a+1) (b-1) (swp d a B)):=aa rfl
 obtain⟨R,a4⟩:∃R,partitionEqual ltInt d a b B=R:=⟨_,rfl⟩
 rw[a4]
 rw[a4]at a6
 clear N Y a4 bd O bi
 go_enter Tryz.func223,Tryz.ntmps223
 go_upto_region 1 with fail
 go_cut [] (fun O=>aH w O z cap (swp d a B))
 case first=>
  by_cases b9:B=a
  ·subst b9;go_region;all_goals go_wp2_with fail
   all_goals go_meet
   all_goals exact a7.out 1
  ·have O:¬a=B:=(by omega);go_region;all_goals go_wp2_with fail
   all_goals go_meet
   all_goals exact a7.out 1
 case rest=>
  clear b0 b1 b2 b3;have be:=hcut;clear hcut;go_wp2_with fail;go_loopg [9,10] (b+1) (fun gk a5 ab wr=>∃(i t:Nat) (q:Array Int),t+1-i≤gk∧a5=.int .i64 (i:Int)∧ab=.int .i64 (t:Int)∧a<i∧i≤t+1∧t<b∧q.size=len∧aH w wr z cap q∧R=partEqLoop ltInt a i t q)
  case atStart=>exact⟨a+1,b-1,_,by omega,by go_num,by congr 1;omega,by omega,by omega,by omega,bD.out,be,a6.out⟩
  case round=>
   obtain⟨i,t,q,cd,rfl,rfl,B,b6,O,bp,hS,bb⟩:=hrel;have bw:=aa hS;have a1:=aa bb;have I:=aa bp;obtain⟨b4,rfl⟩:∃x:Nat,x=gk:=⟨_,rfl⟩;obtain⟨ch,rfl⟩:∃x:World,x=wr:=⟨_,rfl⟩;obtain⟨h,bf⟩:∃h:Nat→Int,∀J,h J=q[J]!:=⟨fun J=>q[J]!,fun _=>rfl⟩;have E:=aa bf;clear hS bb bp be bf;have B:(i:Int)≤(t:Int)+1:=(by omega);go_wp2_with fail;go_loopg [9] (t+1) (fun W a5 ad=>∃j:Nat,t+1-j≤W∧a5=.int .i64 (j:Int)∧i≤j∧j≤t+1∧aH w ad z cap q∧scanUp (fun x=>!ltInt q[a]! x) q t j=scanUp (fun x=>!ltInt q[a]! x) q t i)
   case atStart=>exact⟨i,by omega,rfl,by omega,b6,bw.out,rfl⟩
   case round=>
    obtain⟨j,ce,rfl,J,bg,L,B⟩:=hrel;have A:=aa L;have T:=aa B;clear L B;have am:wr.cell? ⟨z,a,none⟩=some (.int .u32 (h a)):=(by rw[E.out];exact A.out.row.cell a (by rw[I.out];omega));by_cases bn:j≤t
    ·have a8:wr.cell? ⟨z,j,none⟩=some (.int .u32 (h j)):=(by rw[E.out];exact A.out.row.cell j (by rw[I.out];omega));have B:(j:Int)<(len:Int):=(by omega);have bq:(j:Int)≤(t:Int):=(by omega);rcases fA (ltInt (h a) (h j))with X|X
     ·have a0:Hid (scanUp (fun x=>!ltInt q[a]! x) q t (j+1)=scanUp (fun x=>!ltInt q[a]! x) q t i):=aa (by rw[←T.out];exact pS _ q t j bn (by rw[←E.out,←E.out,X];rfl));go_wp2_with fail;go_quiet ((go_at_call 222;exact aQ (aS _ _ _)));go_wp2;go_roundg (gk-1)
      case rel=>exact⟨j+1,by omega,by go_num,by omega,by omega,A.out.drewN nq,a0.out⟩
      case measure=>omega
     ·have al:Hid (scanUp (fun x=>!ltInt q[a]! x) q t i=j):=aa (by rw[←T.out];exact kL _ q t j (Or.inr (by rw[←E.out,←E.out,X];rfl)));go_wp2_with fail;go_quiet ((go_at_call 222;exact aQ (aS _ _ _)));go_wp2;have a3:=aa (A.out.drewN nq);have bt:=aa X;clear am a8 A T X;go_loopg [10] (t+1) (fun W ab ad=>∃s:Nat,s≤W∧ab=.int .i64 (s:Int)∧s≤t∧j≤s+1∧aH w ad z cap q∧scanDown (fun x=>ltInt q[a]! x) q j s=scanDown (fun x=>ltInt q[a]! x) q j t)
      case atStart=>exact⟨t,by omega,rfl,by omega,bg,a3.out,rfl⟩
      case round=>
       obtain⟨s,b5,rfl,b8,b7,L,Z⟩:=hrel;have A:=aa L;have U:=aa Z;clear L Z;have am:wr.cell? ⟨z,a,none⟩=some (.int .u32 (h a)):=(by rw[E.out];exact A.out.row.cell a (by rw[I.out];omega));by_cases aw:j≤s
       ·have B:wr.cell? ⟨z,s,none⟩=some (.int .u32 (h s)):=(by rw[E.out];exact A.out.row.cell s (by rw[I.out];omega));have B:(s:Int)<(len:Int):=(by omega);have br:(j:Int)≤(s:Int):=(by omega);rcases fA (ltInt (h a) (h s))with av|av
        ·have S:Hid (scanDown (fun x=>ltInt q[a]! x) q j t=s):=aa (by rw[←U.out];exact iE _ q j s (Or.inr (by rw[←E.out,←E.out];exact av)));have ca:¬s=j:=fun e=>(by have a':=bt.out;rw[←e,av]at a';cases a');have B:¬j=s:=fun e=>ca e.symm;have a8:wr.cell? ⟨z,j,none⟩=some (.int .u32 (h j)):=(by rw[E.out];exact A.out.row.cell j (by rw[I.out];omega));have B:wr.frozen? ⟨z,j,none⟩=false:=A.out.row.frozen j;have B:wr.frozen? ⟨z,s,none⟩=false:=A.out.row.frozen s;have bs:(j:Int)<(len:Int):=(by omega);have B:¬(s:Int)<(j:Int):=(by omega);have N:=fun n=>A.out.ca n j s (by rw[I.out];omega) (by rw[I.out];omega);rw[←E.out,←E.out]at N;have bx:=aa N;have bv:Hid (R=partEqLoop ltInt a (j+1) (s-1) (swp q j s)):=aa (by rw[AD a i t q al.out S.out (by omega)];exact a1.out);clear N;go_wp2_with fail;go_quiet ((go_at_call 222;exact aQ (aS _ _ _)));go_wp2;go_region;all_goals go_wp2
         go_roundg (b4-1)
         case rel=>exact⟨j+1,s-1,_,by omega,by go_num,by congr 1;omega,by omega,by omega,by omega,by rw[size_swp];exact I.out,bx.out (nq+1),bv.out⟩
         case measure=>omega
        ·have a0:Hid (scanDown (fun x=>ltInt q[a]! x) q j (s-1)=scanDown (fun x=>ltInt q[a]! x) q j t):=aa (by rw[←U.out];exact oh _ q j s aw (by omega) (by rw[←E.out,←E.out];exact av));go_wp2_with fail;go_quiet ((go_at_call 222;exact aQ (aS _ _ _)));go_wp2;go_roundg (gk-1)
         case rel=>exact⟨s-1,by omega,by congr 1;omega,by omega,by omega,A.out.drewN nq,a0.out⟩
         case measure=>omega
       ·have S:Hid (scanDown (fun x=>ltInt q[a]! x) q j t=s):=aa (by rw[←U.out];exact iE _ q j s (Or.inl aw));have br:decide ((j:Int)≤(s:Int))=false:=aY (by omega);have bs:(s:Int)<(j:Int):=(by omega);go_wp2_with fail;go_quiet ((go_at_call 222;exact aQ (aS _ _ _)));go_wp2;go_ret;have e:=sI a i t q al.out S.out (by omega);rw[a1.out,e];exact⟨rfl,A.out.drewN _⟩
    ·have al:Hid (scanUp (fun x=>!ltInt q[a]! x) q t i=j):=aa (by rw[←T.out];exact kL _ q t j (Or.inl bn));have bq:decide ((j:Int)≤(t:Int))=false:=aY (by omega);go_wp2_with fail;go_quiet ((go_at_call 222;exact aQ (aS _ _ _)));go_wp2;have a3:=aa (A.out.drewN nq);clear am A T bq;go_loopg [10] (t+1) (fun W ab ad=>∃s:Nat,s≤W∧ab=.int .i64 (s:Int)∧s≤t∧j≤s+1∧aH w ad z cap q∧scanDown (fun x=>ltInt q[a]! x) q j s=scanDown (fun x=>ltInt q[a]! x) q j t)
     case atStart=>exact⟨t,by omega,rfl,by omega,bg,a3.out,rfl⟩
     case round=>
      obtain⟨s,b5,rfl,b8,b7,L,Z⟩:=hrel;have A:=aa L;have U:=aa Z;clear L Z;have am:wr.cell? ⟨z,a,none⟩=some (.int .u32 (h a)):=(by rw[E.out];exact A.out.row.cell a (by rw[I.out];omega));by_cases aw:j≤s;·exfalso;omega
      ·have S:Hid (scanDown (fun x=>ltInt q[a]! x) q j t=s):=aa (by rw[←U.out];exact iE _ q j s (Or.inl aw));have br:decide ((j:Int)≤(s:Int))=false:=aY (by omega);have bs:(s:Int)<(j:Int):=(by omega);go_wp2_with fail;go_quiet ((go_at_call 222;exact aQ (aS _ _ _)));go_wp2;go_ret;have e:=sI a i t q al.out S.out (by omega);rw[a1.out,e];exact⟨rfl,A.out.drewN _⟩
def pf (a:Nat)(r:Nat×Array Int):Nat×Bool×Array Int:=(r.1,false,swp r.2 r.1 a)
theorem sH (d:Array Int)(a b z:Nat){j:Array Int}{i t s q:Nat}(A:j=swp d a z)(hi:i=a+1)(E:t=b-1)(B:scanUp (fun x=>ltInt x j[a]!) j t i=s)(I:scanDown (fun x=>!ltInt x j[a]!) j s t=q)(h:q<s) :
  partition ltInt d a b z=(q,true,swp j q a):=by
 subst A;subst hi;subst E;subst B;subst I
 unfold partition
 simp only[]
 rw[ah h]
theorem Aw (d:Array Int)(a b z:Nat){j:Array Int}{i t q s:Nat}(A:j=swp d a z)(hi:i=a+1)(E:t=b-1)(B:scanUp (fun x=>ltInt x j[a]!) j t i=q)(I:scanDown (fun x=>!ltInt x j[a]!) j q t=s)(h:¬q > s) :
  partition ltInt d a b z=pf a (partLoop ltInt a (q+1) (s-1) (swp j q s)):=by
 subst A;subst hi;subst E;subst B;subst I
 unfold partition
 simp only[]
 rw[ag h]
 rfl
theorem sL (a i s:Nat)(j:Array Int){q t:Nat}(z:scanUp (fun x=>ltInt x j[a]!) j s i=q)(A:scanDown (fun x=>!ltInt x j[a]!) j q s=t)(h:t<q):partLoop ltInt a i s j=(t,j):=by
 subst z;subst A;rw[partLoop_eq,ah h]
theorem AL (a i s:Nat)(j:Array Int){q t:Nat}(z:scanUp (fun x=>ltInt x j[a]!) j s i=q)(A:scanDown (fun x=>!ltInt x j[a]!) j q s=t)(h:¬q > t):partLoop ltInt a (q+1) (t-1) (swp j q t)=partLoop ltInt a i s j:=by
 subst z;subst A;rw[partLoop_eq ltInt a i s,ag h]
theorem Au (B cap len a b J:Nat)(d:Array Int)(w:World)(a8:bP w B cap d)(cn:d.size=len)(c8:a≤J)(da:J<b)(c9:b≤len)(db:len≤1048576) :
  Calls Tryz.prog 224 #[.slice (some ⟨B,0,none⟩) len cap,.int .i64 a,.int .i64 b,.int .i64 J] w fun e w'=>
   e=.returned (.tuple #[.int .i64 (partition ltInt d a b J).1,.bool (partition ltInt d a b J).2.1])∧aH w w' B cap (partition ltInt d a b J).2.2:=by
 have cg:=aH.self a8
 have I:=fun n=>cg.ca n a J (by omega) (by omega)
 obtain⟨g,bi⟩:∃g:Nat→Int,∀N,g N=d[N]!:=⟨fun N=>d[N]!,fun _=>rfl⟩
 rw[←bi,←bi]at I
 have cc:=aa I
 have c0:w.cell? ⟨B,a,none⟩=some (.int .u32 (g a)):=by rw[bi];exact a8.cell a (by omega)
 have c1:w.cell? ⟨B,J,none⟩=some (.int .u32 (g J)):=by rw[bi];exact a8.cell J (by omega)
 have c2:w.frozen? ⟨B,a,none⟩=false:=a8.frozen a
 have c3:w.frozen? ⟨B,J,none⟩=false:=a8.frozen J
 have c8:(a:Int)<(len:Int):=by omega
 have c8:(J:Int)<(len:Int):=by omega
 obtain⟨s,b7⟩:∃x,x=swp d a J:=⟨_,rfl⟩
 obtain⟨i,hi⟩:∃x,x=a+1:=⟨_,rfl⟩
 obtain⟨t,cj⟩:∃x,x=b-1:=⟨_,rfl⟩
 have a4:=aa b7
 have be:=aa hi
 have bf:=aa cj
 have E:Hid (s.size=len):=aa (by rw[b7,size_swp];exact cn)
 have ch:a<i:=by omega
 have bD:i≤t+1:=by omega
 have cl:t<b:=by omega
 obtain⟨R,b6⟩:∃R,partition ltInt d a b J=R:=⟨_,rfl⟩
 rw[b6]
 have bs:=aa b6
 clear I bi b6 cg a8 cn b7 hi cj
 go_enter Tryz.func224,Tryz.ntmps224
 go_upto_region 1 with fail
 go_cut [] (fun a8=>aH w a8 B cap s)
 case first=>
  by_cases c6:J=a
  ·subst c6;go_region;all_goals go_wp2_with fail
   all_goals go_meet
   all_goals(rw[a4.out];exact cc.out 1)
  ·have a8:¬a=J:=(by omega);go_region;all_goals go_wp2_with fail
   all_goals go_meet
   all_goals(rw[a4.out];exact cc.out 1)
 case rest=>
  clear c0 c1 c2 c3;have bt:=aa hcut;clear hcut;obtain⟨h,bn⟩:∃h:Nat→Int,∀N,h N=s[N]!:=⟨fun N=>s[N]!,fun _=>rfl⟩;have A:=aa bn;clear bn;go_wp2_with fail;rw[show(b:Int)-1=(t:Int) by have:=bf.out;omega,show(a:Int)+1=(i:Int) by have:=be.out;omega];go_loopg [10] (t+1) (fun X bq ad=>∃q:Nat,t+1-q≤X∧bq=.int .i64 (q:Int)∧i≤q∧q≤t+1∧aH w ad B cap s∧scanUp (fun x=>ltInt x s[a]!) s t q=scanUp (fun x=>ltInt x s[a]!) s t i)
  case atStart=>exact⟨i,by omega,rfl,by omega,bD,bt.out,rfl⟩
  case round=>
   obtain⟨q,c5,rfl,ci,a6,L,bp⟩:=hrel;have z:=aa L;have T:=aa bp;clear L bp;have am:wr.cell? ⟨B,a,none⟩=some (.int .u32 (h a)):=(by rw[A.out];exact z.out.row.cell a (by rw[E.out];omega));by_cases a7:q≤t
   ·have a5:wr.cell? ⟨B,q,none⟩=some (.int .u32 (h q)):=(by rw[A.out];exact z.out.row.cell q (by rw[E.out];omega));have cD:(q:Int)<(len:Int):=(by omega);have a':(q:Int)≤(t:Int):=(by omega);rcases fA (ltInt (h q) (h a))with Y|Y
    ·have al:Hid (scanUp (fun x=>ltInt x s[a]!) s t i=q):=aa (by rw[←T.out];exact kL _ s t q (Or.inr (by rw[←A.out,←A.out];exact Y)));go_wp2_with fail;go_quiet ((go_at_call 222;exact aQ (aS _ _ _)));go_wp2;have a1:=aa (z.out.drewN nq);have br:=aa Y;clear am a5 z T Y;go_loopg [11] (t+1) (fun X a0 ad=>∃j:Nat,j≤X∧a0=.int .i64 (j:Int)∧j≤t∧q≤j+1∧aH w ad B cap s∧scanDown (fun x=>!ltInt x s[a]!) s q j=scanDown (fun x=>!ltInt x s[a]!) s q t)
     case atStart=>exact⟨t,by omega,rfl,by omega,a6,a1.out,rfl⟩
     case round=>
      obtain⟨j,b8,rfl,b1,b0,L,ab⟩:=hrel;have z:=aa L;have S:=aa ab;clear L ab;have am:wr.cell? ⟨B,a,none⟩=some (.int .u32 (h a)):=(by rw[A.out];exact z.out.row.cell a (by rw[E.out];omega));have b3:(j:Int)<(len:Int):=(by omega);have bw:wr.cell? ⟨B,j,none⟩=some (.int .u32 (h j)):=(by rw[A.out];exact z.out.row.cell j (by rw[E.out];omega));have bx:wr.frozen? ⟨B,j,none⟩=false:=z.out.row.frozen j;by_cases aw:q≤j
      ·have bb:(q:Int)≤(j:Int):=(by omega);rcases fA (ltInt (h j) (h a))with av|av
       ·have a3:Hid (scanDown (fun x=>!ltInt x s[a]!) s q (j-1)=scanDown (fun x=>!ltInt x s[a]!) s q t):=aa (by rw[←S.out];exact oh _ s q j aw (by omega) (by rw[←A.out,←A.out,av];rfl));go_wp2_with fail;go_quiet ((go_at_call 222;exact aQ (aS _ _ _)));go_wp2;go_roundg (gk-1)
        case rel=>exact⟨j-1,by omega,by congr 1;omega,by omega,by omega,z.out.drewN nq,a3.out⟩
        case measure=>omega
       ·have O:Hid (scanDown (fun x=>!ltInt x s[a]!) s q t=j):=aa (by rw[←S.out];exact iE _ s q j (Or.inr (by rw[←A.out,←A.out,av];rfl)));have b2:¬j=q:=fun e=>(by have bg:=br.out;rw[←e,av]at bg;cases bg);have cp:¬q=j:=fun e=>b2 e.symm;have a5:wr.cell? ⟨B,q,none⟩=some (.int .u32 (h q)):=(by rw[A.out];exact z.out.row.cell q (by rw[E.out];omega));have ce:wr.frozen? ⟨B,q,none⟩=false:=z.out.row.frozen q;have bd:(q:Int)<(len:Int):=(by omega);have cE:¬(j:Int)<(q:Int):=(by omega);have cS:¬j<q:=(by omega);have I:=fun n=>z.out.ca n q j (by rw[E.out];omega) (by rw[E.out];omega);rw[←A.out,←A.out]at I;have bv:=aa I;clear I;go_wp2_with fail;go_quiet ((go_at_call 222;exact aQ (aS _ _ _)));go_wp2;go_region;all_goals go_wp2_with fail
        have ca:Hid (R=pf a (partLoop ltInt a (q+1) (j-1) (swp s q j))):=aa (by rw[←bs.out];exact Aw d a b J a4.out be.out bf.out al.out O.out (by omega));have cd:=aa (bv.out (nq+1));have cb:Hid ((swp s q j).size=len):=aa (by rw[size_swp];exact E.out);have cv:a<q+1:=(by omega);have cx:q+1≤j-1+1:=(by omega);have cy:j-1<b:=(by omega);have c7:0<j:=(by omega);clear am bw bx a5 ce;go_loopg [10,11] (b+1) (fun gk bq a0 wr=>∃(i t:Nat) (s:Array Int),t+1-i≤gk∧bq=.int .i64 (i:Int)∧a0=.int .i64 (t:Int)∧a<i∧i≤t+1∧t<b∧s.size=len∧aH w wr B cap s∧R=pf a (partLoop ltInt a i t s))
        case atStart=>exact⟨q+1,j-1,_,by omega,by go_num,by congr 1;omega,cv,cx,cy,cb.out,cd.out,ca.out⟩
        case round=>
         clear cd cb ca bv O al E A bt z a1 S br a4 be bf bs b2 cp bd cE cS b3 bb a' cD cv cx cy c7 av a7 aw b0 b1 a6 ci bD ch cl;obtain⟨i,t,s,c',rfl,rfl,ch,bD,cl,co,hS,cf⟩:=hrel;have bt:=aa hS;have b4:=aa cf;have E:=aa co;obtain⟨c4,rfl⟩:∃x:Nat,x=gk:=⟨_,rfl⟩;obtain⟨dj,rfl⟩:∃x:World,x=wr:=⟨_,rfl⟩;obtain⟨h,bn⟩:∃h:Nat→Int,∀N,h N=s[N]!:=⟨fun N=>s[N]!,fun _=>rfl⟩;have A:=aa bn;clear hS cf co bn;go_wp2_with fail;go_loopg [10] (t+1) (fun X bq ad=>∃q:Nat,t+1-q≤X∧bq=.int .i64 (q:Int)∧i≤q∧q≤t+1∧aH w ad B cap s∧scanUp (fun x=>ltInt x s[a]!) s t q=scanUp (fun x=>ltInt x s[a]!) s t i)
         case atStart=>exact⟨i,by omega,rfl,by omega,bD,bt.out,rfl⟩
         case round=>
          obtain⟨q,c5,rfl,ci,a6,L,bp⟩:=hrel;have z:=aa L;have T:=aa bp;clear L bp;have am:wr.cell? ⟨B,a,none⟩=some (.int .u32 (h a)):=(by rw[A.out];exact z.out.row.cell a (by rw[E.out];omega));by_cases a7:q≤t
          ·have a5:wr.cell? ⟨B,q,none⟩=some (.int .u32 (h q)):=(by rw[A.out];exact z.out.row.cell q (by rw[E.out];omega));have cD:(q:Int)<(len:Int):=(by omega);have a':(q:Int)≤(t:Int):=(by omega);rcases fA (ltInt (h q) (h a))with Y|Y
           ·have al:Hid (scanUp (fun x=>ltInt x s[a]!) s t i=q):=aa (by rw[←T.out];exact kL _ s t q (Or.inr (by rw[←A.out,←A.out];exact Y)));go_wp2_with fail;go_quiet ((go_at_call 222;exact aQ (aS _ _ _)));go_wp2;have a1:=aa (z.out.drewN nq);have br:=aa Y;clear am a5 z T Y;go_loopg [11] (t+1) (fun X a0 ad=>∃j:Nat,j≤X∧a0=.int .i64 (j:Int)∧j≤t∧q≤j+1∧aH w ad B cap s∧scanDown (fun x=>!ltInt x s[a]!) s q j=scanDown (fun x=>!ltInt x s[a]!) s q t)
            case atStart=>exact⟨t,by omega,rfl,by omega,a6,a1.out,rfl⟩
            case round=>
             obtain⟨j,b8,rfl,b1,b0,L,ab⟩:=hrel;have z:=aa L;have S:=aa ab;clear L ab;have am:wr.cell? ⟨B,a,none⟩=some (.int .u32 (h a)):=(by rw[A.out];exact z.out.row.cell a (by rw[E.out];omega));have b3:(j:Int)<(len:Int):=(by omega);have bw:wr.cell? ⟨B,j,none⟩=some (.int .u32 (h j)):=(by rw[A.out];exact z.out.row.cell j (by rw[E.out];omega));have bx:wr.frozen? ⟨B,j,none⟩=false:=z.out.row.frozen j;by_cases aw:q≤j
             ·have bb:(q:Int)≤(j:Int):=(by omega);rcases fA (ltInt (h j) (h a))with av|av
              ·have a3:Hid (scanDown (fun x=>!ltInt x s[a]!) s q (j-1)=scanDown (fun x=>!ltInt x s[a]!) s q t):=aa (by rw[←S.out];exact oh _ s q j aw (by omega) (by rw[←A.out,←A.out,av];rfl));go_wp2_with fail;go_quiet ((go_at_call 222;exact aQ (aS _ _ _)));go_wp2;go_roundg (gk-1)
               case rel=>exact⟨j-1,by omega,by congr 1;omega,by omega,by omega,z.out.drewN nq,a3.out⟩
               case measure=>omega
              ·have O:Hid (scanDown (fun x=>!ltInt x s[a]!) s q t=j):=aa (by rw[←S.out];exact iE _ s q j (Or.inr (by rw[←A.out,←A.out,av];rfl)));have b2:¬j=q:=fun e=>(by have bg:=br.out;rw[←e,av]at bg;cases bg);have cp:¬q=j:=fun e=>b2 e.symm;have a5:wr.cell? ⟨B,q,none⟩=some (.int .u32 (h q)):=(by rw[A.out];exact z.out.row.cell q (by rw[E.out];omega));have ce:wr.frozen? ⟨B,q,none⟩=false:=z.out.row.frozen q;have bd:(q:Int)<(len:Int):=(by omega);have cE:¬(j:Int)<(q:Int):=(by omega);have cS:¬j<q:=(by omega);have I:=fun n=>z.out.ca n q j (by rw[E.out];omega) (by rw[E.out];omega);rw[←A.out,←A.out]at I;have bv:=aa I;clear I;go_wp2_with fail;go_quiet ((go_at_call 222;exact aQ (aS _ _ _)));go_wp2;go_region;all_goals go_wp2_with fail
               go_roundg (c4-1)
               case rel=>exact⟨q+1,j-1,_,by omega,by go_num,by congr 1;omega,by omega,by omega,by omega,by rw[size_swp];exact E.out,bv.out (nq+1),by rw[AL a i t s al.out O.out (by omega)];exact b4.out⟩
               case measure=>omega
             ·skip
              have O:Hid (scanDown (fun x=>!ltInt x s[a]!) s q t=j):=aa (by rw[←S.out];exact iE _ s q j (Or.inl aw));have bb:decide ((q:Int)≤(j:Int))=false:=aY (by omega);have bd:(j:Int)<(q:Int):=(by omega);have b5:wr.frozen? ⟨B,a,none⟩=false:=z.out.row.frozen a;have W:Hid (R=(j,false,swp s j a)):=aa (by rw[b4.out,sL a i t s al.out O.out (by omega)];rfl)
              have I:=fun n=>z.out.ca n j a (by rw[E.out];omega) (by rw[E.out];omega);rw[←A.out,←A.out]at I;have U:=aa I;clear I;by_cases Z:j=a
              ·subst Z;go_wp2_with fail;go_quiet ((go_at_call 222;exact aQ (aS _ _ _)));go_wp2;go_region;all_goals go_wp2
               all_goals refine aq (results_tmp2 rfl _ _ _) rfl ?_
               all_goals(rw[W.out];exact⟨rfl,U.out (nq+1)⟩)
              ·have b9:¬a=j:=fun e=>Z e.symm;go_wp2_with fail;go_quiet ((go_at_call 222;exact aQ (aS _ _ _)));go_wp2;go_region;all_goals go_wp2
               all_goals refine aq (results_tmp2 rfl _ _ _) rfl ?_
               all_goals(rw[W.out];exact⟨rfl,U.out (nq+1)⟩)
           ·have a3:Hid (scanUp (fun x=>ltInt x s[a]!) s t (q+1)=scanUp (fun x=>ltInt x s[a]!) s t i):=aa (by rw[←T.out];exact pS _ s t q a7 (by rw[←A.out,←A.out];exact Y));go_wp2_with fail;go_quiet ((go_at_call 222;exact aQ (aS _ _ _)));go_wp2;go_roundg (gk-1)
            case rel=>exact⟨q+1,by omega,by go_num,by omega,by omega,z.out.drewN nq,a3.out⟩
            case measure=>omega
          ·have al:Hid (scanUp (fun x=>ltInt x s[a]!) s t i=q):=aa (by rw[←T.out];exact kL _ s t q (Or.inl a7));have a':decide ((q:Int)≤(t:Int))=false:=aY (by omega);go_wp2_with fail;go_quiet ((go_at_call 222;exact aQ (aS _ _ _)));go_wp2;have a1:=aa (z.out.drewN nq);clear am z T a';go_loopg [11] (t+1) (fun X a0 ad=>∃j:Nat,j≤X∧a0=.int .i64 (j:Int)∧j≤t∧q≤j+1∧aH w ad B cap s∧scanDown (fun x=>!ltInt x s[a]!) s q j=scanDown (fun x=>!ltInt x s[a]!) s q t)
           case atStart=>exact⟨t,by omega,rfl,by omega,a6,a1.out,rfl⟩
           case round=>
            obtain⟨j,b8,rfl,b1,b0,L,ab⟩:=hrel;have z:=aa L;have S:=aa ab;clear L ab;have am:wr.cell? ⟨B,a,none⟩=some (.int .u32 (h a)):=(by rw[A.out];exact z.out.row.cell a (by rw[E.out];omega));have b3:(j:Int)<(len:Int):=(by omega);have bw:wr.cell? ⟨B,j,none⟩=some (.int .u32 (h j)):=(by rw[A.out];exact z.out.row.cell j (by rw[E.out];omega));have bx:wr.frozen? ⟨B,j,none⟩=false:=z.out.row.frozen j;by_cases aw:q≤j;·exfalso;omega
            ·skip
             have O:Hid (scanDown (fun x=>!ltInt x s[a]!) s q t=j):=aa (by rw[←S.out];exact iE _ s q j (Or.inl aw));have bb:decide ((q:Int)≤(j:Int))=false:=aY (by omega);have bd:(j:Int)<(q:Int):=(by omega);have b5:wr.frozen? ⟨B,a,none⟩=false:=z.out.row.frozen a;have W:Hid (R=(j,false,swp s j a)):=aa (by rw[b4.out,sL a i t s al.out O.out (by omega)];rfl)
             have I:=fun n=>z.out.ca n j a (by rw[E.out];omega) (by rw[E.out];omega);rw[←A.out,←A.out]at I;have U:=aa I;clear I;by_cases Z:j=a
             ·subst Z;go_wp2_with fail;go_quiet ((go_at_call 222;exact aQ (aS _ _ _)));go_wp2;go_region;all_goals go_wp2
              all_goals refine aq (results_tmp2 rfl _ _ _) rfl ?_
              all_goals(rw[W.out];exact⟨rfl,U.out (nq+1)⟩)
             ·have b9:¬a=j:=fun e=>Z e.symm;go_wp2_with fail;go_quiet ((go_at_call 222;exact aQ (aS _ _ _)));go_wp2;go_region;all_goals go_wp2
              all_goals refine aq (results_tmp2 rfl _ _ _) rfl ?_
              all_goals(rw[W.out];exact⟨rfl,U.out (nq+1)⟩)
      ·skip
       have O:Hid (scanDown (fun x=>!ltInt x s[a]!) s q t=j):=aa (by rw[←S.out];exact iE _ s q j (Or.inl aw));have bb:decide ((q:Int)≤(j:Int))=false:=aY (by omega);have bd:(j:Int)<(q:Int):=(by omega);have b5:wr.frozen? ⟨B,a,none⟩=false:=z.out.row.frozen a;have W:Hid (R=(j,true,swp s j a)):=aa (by rw[←bs.out];exact sH d a b J a4.out be.out bf.out al.out O.out (by omega));have I:=fun n=>z.out.ca n j a (by rw[E.out];omega) (by rw[E.out];omega);rw[←A.out,←A.out]at I;have U:=aa I;clear I;by_cases Z:j=a
       ·subst Z;go_wp2_with fail;go_quiet ((go_at_call 222;exact aQ (aS _ _ _)));go_wp2;go_region;all_goals go_wp2
        all_goals refine aq (results_tmp2 rfl _ _ _) rfl ?_
        all_goals(rw[W.out];exact⟨rfl,U.out (nq+1)⟩)
       ·have b9:¬a=j:=fun e=>Z e.symm;go_wp2_with fail;go_quiet ((go_at_call 222;exact aQ (aS _ _ _)));go_wp2;go_region;all_goals go_wp2
        all_goals refine aq (results_tmp2 rfl _ _ _) rfl ?_
        all_goals(rw[W.out];exact⟨rfl,U.out (nq+1)⟩)
    ·have a3:Hid (scanUp (fun x=>ltInt x s[a]!) s t (q+1)=scanUp (fun x=>ltInt x s[a]!) s t i):=aa (by rw[←T.out];exact pS _ s t q a7 (by rw[←A.out,←A.out];exact Y));go_wp2_with fail;go_quiet ((go_at_call 222;exact aQ (aS _ _ _)));go_wp2;go_roundg (gk-1)
     case rel=>exact⟨q+1,by omega,by go_num,by omega,by omega,z.out.drewN nq,a3.out⟩
     case measure=>omega
   ·have al:Hid (scanUp (fun x=>ltInt x s[a]!) s t i=q):=aa (by rw[←T.out];exact kL _ s t q (Or.inl a7));have a':decide ((q:Int)≤(t:Int))=false:=aY (by omega);go_wp2_with fail;go_quiet ((go_at_call 222;exact aQ (aS _ _ _)));go_wp2;have a1:=aa (z.out.drewN nq);clear am z T a';go_loopg [11] (t+1) (fun X a0 ad=>∃j:Nat,j≤X∧a0=.int .i64 (j:Int)∧j≤t∧q≤j+1∧aH w ad B cap s∧scanDown (fun x=>!ltInt x s[a]!) s q j=scanDown (fun x=>!ltInt x s[a]!) s q t)
    case atStart=>exact⟨t,by omega,rfl,by omega,a6,a1.out,rfl⟩
    case round=>
     obtain⟨j,b8,rfl,b1,b0,L,ab⟩:=hrel;have z:=aa L;have S:=aa ab;clear L ab;have am:wr.cell? ⟨B,a,none⟩=some (.int .u32 (h a)):=(by rw[A.out];exact z.out.row.cell a (by rw[E.out];omega));have b3:(j:Int)<(len:Int):=(by omega);have bw:wr.cell? ⟨B,j,none⟩=some (.int .u32 (h j)):=(by rw[A.out];exact z.out.row.cell j (by rw[E.out];omega));have bx:wr.frozen? ⟨B,j,none⟩=false:=z.out.row.frozen j;by_cases aw:q≤j;·exfalso;omega
     ·skip
      have O:Hid (scanDown (fun x=>!ltInt x s[a]!) s q t=j):=aa (by rw[←S.out];exact iE _ s q j (Or.inl aw));have bb:decide ((q:Int)≤(j:Int))=false:=aY (by omega);have bd:(j:Int)<(q:Int):=(by omega);have b5:wr.frozen? ⟨B,a,none⟩=false:=z.out.row.frozen a;have W:Hid (R=(j,true,swp s j a)):=aa (by rw[←bs.out];exact sH d a b J a4.out be.out bf.out al.out O.out (by omega));have I:=fun n=>z.out.ca n j a (by rw[E.out];omega) (by rw[E.out];omega);rw[←A.out,←A.out]at I;have U:=aa I;clear I;by_cases Z:j=a
      ·subst Z;go_wp2_with fail;go_quiet ((go_at_call 222;exact aQ (aS _ _ _)));go_wp2;go_region;all_goals go_wp2
       all_goals refine aq (results_tmp2 rfl _ _ _) rfl ?_
       all_goals(rw[W.out];exact⟨rfl,U.out (nq+1)⟩)
      ·have b9:¬a=j:=fun e=>Z e.symm;go_wp2_with fail;go_quiet ((go_at_call 222;exact aQ (aS _ _ _)));go_wp2;go_region;all_goals go_wp2
       all_goals refine aq (results_tmp2 rfl _ _ _) rfl ?_
       all_goals(rw[W.out];exact⟨rfl,U.out (nq+1)⟩)
theorem Ci (j:Nat)(d:Array Int):(shiftDown ltInt j d).size=d.size:=by
 fun_induction shiftDown ltInt j d<;>simp_all [size_swp]
theorem Df (b j:Nat)(d:Array Int):(shiftUp ltInt b j d).size=d.size:=by
 fun_induction shiftUp ltInt b j d<;>simp_all [size_swp]
theorem xJ (a i:Nat)(d:Array Int):(fixDown ltInt a i d).size=d.size:=by
 unfold fixDown;split;·exact Ci _ _
 ·rfl
theorem ow (b i:Nat)(d:Array Int):(fixUp ltInt b i d).size=d.size:=by
 unfold fixUp;split;·exact Df _ _ _
 ·rfl
theorem Ch (j:Nat)(d:Array Int)(q:0<j)(h:ltInt d[j]! d[j-1]! = true):shiftDown ltInt (j-1) (swp d j (j-1)) = shiftDown ltInt j d:=by
 obtain⟨k,rfl⟩:∃k,j=k+1:=⟨j-1,by omega⟩;simp only[Nat.add_sub_cancel]at h ⊢;rw[shiftDown,ag (by simp[h])]
theorem Cj (j:Nat)(d:Array Int)(h:j = 0∨ltInt d[j]! d[j-1]! = false):shiftDown ltInt j d = d:=by
 cases j with
 |zero=>rfl
 |succ k=>
  simp only[Nat.add_sub_cancel]at h;rw[shiftDown,ah (by rcases h with h|h<;>simp_all)]
theorem De (b j:Nat)(d:Array Int)(q:j<b)(h:ltInt d[j]! d[j-1]! = true):shiftUp ltInt b (j+1) (swp d j (j-1)) = shiftUp ltInt b j d:=by
 rw[shiftUp.eq_1 ltInt b j,ah q,ag (by simp[h])]
theorem tP (b j:Nat)(d:Array Int)(h:¬j<b∨ltInt d[j]! d[j-1]! = false):shiftUp ltInt b j d = d:=by
 rw[shiftUp];rcases h with h|h;·rw[ag h]
 ·by_cases q:j<b;·rw[ah q,ah (by simp[h])]
  ·rw[ag q]
theorem C5 (b i:Nat)(d:Array Int)(j:i<b)(h:ltInt d[i]! d[i-1]! = false):scanSorted ltInt d b (i+1) = scanSorted ltInt d b i:=by
 rw[scanSorted.eq_1 ltInt d b i,ah (by simp[j,h])]
theorem tK (b i:Nat)(d:Array Int)(h:¬i<b∨ltInt d[i]! d[i-1]! = true):scanSorted ltInt d b i = i:=by
 rw[scanSorted,ag (by rcases h with h|h<;>simp[h])]
theorem AI (a b j i:Nat)(d:Array Int)(h:scanSorted ltInt d b i=b):partialIns ltInt a b (j+1) i d=(d,true):=by
 rw[partialIns_succ,ah h]
theorem AH (a b s i j:Nat)(d:Array Int)(h:scanSorted ltInt d b i=j)(t:j<b)(q:b-a<50):partialIns ltInt a b (s+1) i d=(d,false):=by
 subst h;rw[partialIns_succ,ag (by omega),ah q]
theorem AJ (a b q i j:Nat)(d:Array Int)(h:scanSorted ltInt d b i=j)(t:j<b)(s:¬b-a<50):partialIns ltInt a b q j (fixUp ltInt b j (fixDown ltInt a j (swp d j (j-1))))=partialIns ltInt a b (q+1) i d:=by
 subst h;rw[partialIns_succ,ag (by omega),ag s]
theorem AK (t cap len a b:Nat)(d:Array Int)(w:World)(ce:bP w t cap d)(cd:d.size=len)(c2:a<b)(c3:b≤len)(c7:len≤1048576) :
  Calls Tryz.prog 221 #[.slice (some ⟨t,0,none⟩) len cap,.int .i64 a,.int .i64 b] w fun e w'=>
   e=.returned (.bool (partialInsertionSort ltInt d a b).2)∧aH w w' t cap (partialInsertionSort ltInt d a b).1:=by
 obtain⟨R,br⟩:∃R,partialInsertionSort ltInt d a b=R:=⟨_,rfl⟩
 have cf:Hid (R=partialIns ltInt a b 5 (a+1) d):=aa (by rw[←br];rfl)
 rw[br]
 clear br
 go_enter Tryz.func221,Tryz.ntmps221
 go_wp2
 go_loopg [7,8] 6 (fun gk b6 br wr=>∃(i B:Nat) (z:Array Int),B<gk∧B≤5∧b6=.int .i64 (i:Int)∧br=.int .i64 (5-(B:Int))∧a<i∧i≤b∧z.size=len∧aH w wr t cap z∧R=partialIns ltInt a b B i z)
 case atStart=>exact⟨a+1,5,d,by omega,by omega,by go_num,rfl,by omega,by omega,cd,aH.self ce,cf.out⟩
 case round=>
  obtain⟨i,B,z,c4,c6,rfl,rfl,cv,cy,cf,hS,br⟩:=hrel;have b8:=aa hS;have a':=aa br;have ad:=aa cf;clear hS br cf ce cd;obtain⟨bq,rfl⟩:∃x:Nat,x=gk:=⟨_,rfl⟩;obtain⟨c8,rfl⟩:∃x:World,x=wr:=⟨_,rfl⟩;obtain⟨h,cc⟩:∃h:Nat→Int,∀I,h I=z[I]!:=⟨fun I=>z[I]!,fun _=>rfl⟩;have S:=aa cc;clear cc;cases B with
  |zero=>
   have b9:(5:Int)-((0:Nat):Int)=5:=rfl;rw[b9];clear b9;go_wp2;go_ret;rw[a'.out];exact⟨rfl,b8.out⟩
  |succ B=>
   have cE:(5:Int)-((B+1:Nat):Int)<5:=(by omega);obtain⟨b2,bx⟩:∃b2:Int,b2=(5:Int)-((B+1:Nat):Int):=⟨_,rfl⟩;rw[←bx]at cE ⊢;have br:0≤b2:=(by omega);have bg:=aa bx;clear bx;go_wp2_with fail;go_loopg [7] (b+1) (fun aw b6 a7=>∃j:Nat,b+1-j≤aw∧b6=.int .i64 (j:Int)∧a<j∧j≤b∧aH w a7 t cap z∧scanSorted ltInt z b j=scanSorted ltInt z b i)
   case atStart=>exact⟨i,by omega,rfl,cv,cy,b8.out,rfl⟩
   case round=>
    obtain⟨j,c5,rfl,bs,bv,br,bx⟩:=hrel;have T:=aa br;have bd:=aa bx;clear br bx;have b3:((j:Int)-1).toNat=j-1:=(by omega);have b4:(0:Int)≤(j:Int)-1:=(by omega);have b5:(j:Int)-1<(len:Int):=(by omega);have bn:wr.cell? ⟨t,j-1,none⟩=some (.int .u32 (h (j-1))):=(by rw[S.out];exact T.out.row.cell (j-1) (by rw[ad.out];omega));by_cases a5:j<b
    ·have cj:wr.cell? ⟨t,j,none⟩=some (.int .u32 (h j)):=(by rw[S.out];exact T.out.row.cell j (by rw[ad.out];omega));have br:(j:Int)<(len:Int):=(by omega);have X:(j:Int)<(b:Int):=(by omega);rcases fA (ltInt (h j) (h (j-1)))with be|be
     ·have av:Hid (scanSorted ltInt z b (j+1)=scanSorted ltInt z b i):=aa (by rw[←bd.out];exact C5 b j z a5 (by rw[←S.out,←S.out];exact be));go_wp2_with fail;go_quiet ((go_at_call 222;exact aQ (aS _ _ _)));go_wp2;go_roundg (gk-1)
      case rel=>exact⟨j+1,by omega,by go_num,by omega,by omega,T.out.drewN nq,av.out⟩
      case measure=>omega
     ·have ab:Hid (scanSorted ltInt z b i=j):=aa (by rw[←bd.out];exact tK b j z (Or.inr (by rw[←S.out,←S.out];exact be)));have cS:¬j=b:=(by omega);by_cases bt:b-a<50
      ·have ch:(b:Int)-(a:Int)<50:=(by omega);go_wp2_with fail;go_quiet ((go_at_call 222;exact aQ (aS _ _ _)));go_wp2;go_ret;rw[a'.out,AH a b B i j z ab.out a5 bt];exact⟨rfl,T.out.drewN _⟩
      ·have ch:¬(b:Int)-(a:Int)<50:=(by omega);have co:wr.frozen? ⟨t,j,none⟩=false:=T.out.row.frozen j;have bp:wr.frozen? ⟨t,j-1,none⟩=false:=T.out.row.frozen (j-1);have N:=fun n=>T.out.ca n j (j-1) (by rw[ad.out];omega) (by rw[ad.out];omega);rw[←S.out,←S.out]at N;have ci:=aa N;have Y:Hid (R=partialIns ltInt a b B j (fixUp ltInt b j (fixDown ltInt a j (swp z j (j-1))))):=aa (by rw[AJ a b B i j z ab.out a5 bt];exact a'.out);clear N;have b0:¬j-1=j:=(by omega);have b1:¬j=j-1:=(by omega);go_wp2_with fail;go_quiet ((go_at_call 222;exact aQ (aS _ _ _)));go_wp2;go_region;obtain⟨c1,bD⟩:∃x,x=((wr.drewN (nq+1)).setCell ⟨t,j,none⟩ (.int .u32 (h (j-1)))).setCell ⟨t,j-1,none⟩ (.int .u32 (h j)):=⟨_,rfl⟩;have bb:Hid (aH w c1 t cap (swp z j (j-1))):=aa (by rw[bD];exact ci.out (nq+1));rw[←bD];have a8:Hid ((swp z j (j-1)).size=len):=aa (by rw[size_swp];exact ad.out);obtain⟨J,ca⟩:∃x,x=swp z j (j-1):=⟨_,rfl⟩;rw[←ca]at bb Y a8;have S:Hid (j<b∧¬b-a<50):=aa ⟨a5,bt⟩;clear bD ca cj bn co bp b0 b1 b3 b4 b5 cS be ab bd ch X;go_upto_if 61 with fail
       go_cut [] (fun S=>aH w S t cap (fixDown ltInt a j J))
       case first=>
        by_cases a0:j-a≥2
        ·have X:(2:Int)≤(j:Int)-(a:Int):=(by omega);have Z:Hid (fixDown ltInt a j J=shiftDown ltInt (j-1) J):=aa (by unfold fixDown;rw[ah a0]);go_wp2_with fail;go_loopg [9] (j+1) (fun aw b7 a7=>∃(q:Nat) (s:Array Int),q<aw∧b7=.int .i64 (q:Int)∧q<j∧s.size=len∧aH w a7 t cap s∧shiftDown ltInt q s=shiftDown ltInt (j-1) J)
         case atStart=>exact⟨j-1,J,by omega,by congr 1;omega,by omega,a8.out,bb.out,rfl⟩
         case round=>
          obtain⟨q,s,cx,rfl,cD,a6,a3,a1⟩:=hrel;have E:=aa a3;have U:=aa a1;have L:=aa a6;clear a3 a1 a6;by_cases bw:q=0
          ·subst bw;have O:Hid (fixDown ltInt a j J=s):=aa (by rw[Z.out,←U.out];rfl);go_wp2_with fail;go_meet;case rel=>rw[O.out];exact E.out
          ·have cg:(1:Int)≤(q:Int):=(by omega);have b3:((q:Int)-1).toNat=q-1:=(by omega);have b4:(0:Int)≤(q:Int)-1:=(by omega);have b5:(q:Int)-1<(len:Int):=(by omega);have c0:(q:Int)<(len:Int):=(by omega);have b0:¬q-1=q:=(by omega);have b1:¬q=q-1:=(by omega);obtain⟨g,a4⟩:∃g:Nat→Int,∀I,g I=s[I]!:=⟨fun I=>s[I]!,fun _=>rfl⟩;have A:=aa a4;clear a4;have cl:wr.cell? ⟨t,q,none⟩=some (.int .u32 (g q)):=(by rw[A.out];exact E.out.row.cell q (by rw[L.out];omega));have bn:wr.cell? ⟨t,q-1,none⟩=some (.int .u32 (g (q-1))):=(by rw[A.out];exact E.out.row.cell (q-1) (by rw[L.out];omega));have cp:wr.frozen? ⟨t,q,none⟩=false:=E.out.row.frozen q;have bp:wr.frozen? ⟨t,q-1,none⟩=false:=E.out.row.frozen (q-1);rcases fA (ltInt (g q) (g (q-1)))with W|W
           ·have O:Hid (fixDown ltInt a j J=s):=aa (by rw[Z.out,←U.out];exact Cj q s (Or.inr (by rw[←A.out,←A.out];exact W)));go_wp2_with fail;go_quiet ((go_at_call 222;exact aQ (aS _ _ _)));go_wp2_with fail;go_meet;case rel=>rw[O.out];exact E.out.drewN nq
           ·have N:=fun n=>E.out.ca n q (q-1) (by rw[L.out];omega) (by rw[L.out];omega);rw[←A.out,←A.out]at N;have bi:=aa N;have av:Hid (shiftDown ltInt (q-1) (swp s q (q-1))=shiftDown ltInt (j-1) J):=aa (by rw[←U.out];exact Ch q s (by omega) (by rw[←A.out,←A.out];exact W));clear N;go_wp2_with fail;go_quiet ((go_at_call 222;exact aQ (aS _ _ _)));go_wp2;go_region;all_goals go_wp2
            go_roundg (gk-1)
            case rel=>exact⟨q-1,_,by omega,by congr 1;omega,by omega,by rw[size_swp];exact L.out,bi.out (nq+1),av.out⟩
            case measure=>omega
        ·have X:¬(2:Int)≤(j:Int)-(a:Int):=(by omega);have O:Hid (fixDown ltInt a j J=J):=aa (by unfold fixDown;rw[ag a0]);go_wp2_with fail;go_meet;case rel=>rw[O.out];exact bb.out
       case rest=>
        have bf:=aa hcut;have al:Hid ((fixDown ltInt a j J).size=len):=aa (by rw[xJ];exact a8.out);obtain⟨d4,cb⟩:∃x,x=fixDown ltInt a j J:=⟨_,rfl⟩;rw[←cb]at bf Y al;clear hcut cb bb a8;go_upto_if 98 with fail
        by_cases a0:b-j≥2
        ·have X:(2:Int)≤(b:Int)-(j:Int):=(by omega);have Z:Hid (fixUp ltInt b j d4=shiftUp ltInt b (j+1) d4):=aa (by unfold fixUp;rw[ah a0]);go_wp2_with fail;go_loopg [10] (b+1) (fun aw b7 a7=>∃(q:Nat) (s:Array Int),b+1-q≤aw∧b7=.int .i64 (q:Int)∧j<q∧q≤b∧s.size=len∧aH w a7 t cap s∧shiftUp ltInt b q s=shiftUp ltInt b (j+1) d4)
         case atStart=>exact⟨j+1,d4,by omega,by go_num,by omega,by omega,al.out,bf.out,rfl⟩
         case round=>
          obtain⟨q,s,cx,rfl,cD,J,a6,a3,a1⟩:=hrel;have E:=aa a3;have U:=aa a1;have L:=aa a6;clear a3 a1 a6;by_cases bw:¬q<b
          ·have O:Hid (fixUp ltInt b j d4=s):=aa (by rw[Z.out,←U.out];exact tP b q s (Or.inl bw));have cg:¬(q:Int)<(b:Int):=(by omega);go_wp2_with fail;have am:Hid ((fixUp ltInt b j d4).size=len):=aa (by rw[ow];exact al.out);go_roundg (bq-1)
           case rel=>exact⟨j,B,_,by omega,by omega,rfl,by have:=bg.out;congr 1;omega,bs,bv,am.out,by rw[O.out];exact E.out,Y.out⟩
           case measure=>omega
          ·have cg:(q:Int)<(b:Int):=(by omega);have b3:((q:Int)-1).toNat=q-1:=(by omega);have b4:(0:Int)≤(q:Int)-1:=(by omega);have b5:(q:Int)-1<(len:Int):=(by omega);have c0:(q:Int)<(len:Int):=(by omega);have b0:¬q-1=q:=(by omega);have b1:¬q=q-1:=(by omega);obtain⟨g,a4⟩:∃g:Nat→Int,∀I,g I=s[I]!:=⟨fun I=>s[I]!,fun _=>rfl⟩;have A:=aa a4;clear a4;have cl:wr.cell? ⟨t,q,none⟩=some (.int .u32 (g q)):=(by rw[A.out];exact E.out.row.cell q (by rw[L.out];omega));have bn:wr.cell? ⟨t,q-1,none⟩=some (.int .u32 (g (q-1))):=(by rw[A.out];exact E.out.row.cell (q-1) (by rw[L.out];omega));have cp:wr.frozen? ⟨t,q,none⟩=false:=E.out.row.frozen q;have bp:wr.frozen? ⟨t,q-1,none⟩=false:=E.out.row.frozen (q-1);rcases fA (ltInt (g q) (g (q-1)))with W|W
           ·have O:Hid (fixUp ltInt b j d4=s):=aa (by rw[Z.out,←U.out];exact tP b q s (Or.inr (by rw[←A.out,←A.out];exact W)));go_wp2_with fail;go_quiet ((go_at_call 222;exact aQ (aS _ _ _)));go_wp2_with fail;have am:Hid ((fixUp ltInt b j d4).size=len):=aa (by rw[ow];exact al.out);go_roundg (bq-1)
            case rel=>exact⟨j,B,_,by omega,by omega,rfl,by have:=bg.out;congr 1;omega,bs,bv,am.out,by rw[O.out];exact E.out.drewN nq,Y.out⟩
            case measure=>omega
           ·have N:=fun n=>E.out.ca n q (q-1) (by rw[L.out];omega) (by rw[L.out];omega);rw[←A.out,←A.out]at N;have bi:=aa N;have av:Hid (shiftUp ltInt b (q+1) (swp s q (q-1))=shiftUp ltInt b (j+1) d4):=aa (by rw[←U.out];exact De b q s (by omega) (by rw[←A.out,←A.out];exact W));clear N;go_wp2_with fail;go_quiet ((go_at_call 222;exact aQ (aS _ _ _)));go_wp2;go_region;all_goals go_wp2
            go_roundg (gk-1)
            case rel=>exact⟨q+1,_,by omega,by go_num,by omega,by omega,by rw[size_swp];exact L.out,bi.out (nq+1),av.out⟩
            case measure=>omega
        ·have X:¬(2:Int)≤(b:Int)-(j:Int):=(by omega);have O:Hid (fixUp ltInt b j d4=d4):=aa (by unfold fixUp;rw[ag a0]);go_wp2_with fail;have am:Hid ((fixUp ltInt b j d4).size=len):=aa (by rw[ow];exact al.out);go_roundg (bq-1)
         case rel=>exact⟨j,B,_,by omega,by omega,rfl,by have:=bg.out;congr 1;omega,bs,bv,am.out,by rw[O.out];exact bf.out,Y.out⟩
         case measure=>omega
    ·have ab:Hid (scanSorted ltInt z b i=b):=aa (by have e:j=b:=(by omega);rw[←bd.out,tK b j z (Or.inl a5)];exact e);have X:decide ((j:Int)<(b:Int))=false:=aY (by omega);have cn:j=b:=(by omega);subst cn;go_wp2_with fail;go_quiet ((go_at_call 222;exact aQ (aS _ _ _)));go_wp2;go_ret;rw[a'.out,AI a j B i z ab.out];exact⟨rfl,T.out.drewN _⟩
def Leaves (a b j b':Nat)(d q:Array Int):Prop:=
 ∀R,PermIn j b' q R→SortedIn ltInt j b' R→PermIn a b d R∧SortedIn ltInt a b R
theorem Leaves.refl (a b:Nat)(d:Array Int):Leaves a b a b d d:=fun _ j q=>⟨j,q⟩
theorem Leaves.perm {a b j b':Nat}{d s q:Array Int}(h:Leaves a b j b' d s)(t:PermIn j b' s q):Leaves a b j b' d q:=
 fun R j q=>h R (permIn_trans _ _ _ _ _ t j) q
theorem aH.ad {w w1 s:World}{j cap:Nat}{d:Array Int}(h:aH w w1 j cap d)(q:ae w1 s):aH w s j cap d:=h.trans ⟨ae.av q _,h.row.a4 (ae.av q (fun _=>False)) (fun h=>h)⟩
theorem Az (q cap len:Nat)(al:len≤1048576):∀(bt a b bw:Nat) (d:Array Int) (w:World),b-a<bt→bP w q cap d→d.size=len→a≤b→b≤len→bw≤64→Below ltInt a b d →
  Calls Tryz.prog 178 #[.slice (some ⟨q,0,none⟩) len cap,.int .i64 a,.int .i64 b,.int .i64 bw] w fun e w'=>
   e=.returned (.tuple #[])∧∃d',PermIn a b d d'∧SortedIn ltInt a b d'∧aH w w' q cap d':=by
 intro bt
 induction bt with
 |zero=>intro _ _ _ _ _ h;exact absurd h (Nat.not_lt_zero _)
 |succ bt cn=>
  intro a b bw d w bt cl ci c7 c8 c' bt;have c4:=aa cl;have c0:=aa ci;have cv:=aa bt;have ce:=aa cn;clear cl ci bt cn;go_enter Tryz.func178,Tryz.ntmps178;go_wp2
  go_loopg [1,2,3,8,9] (b-a+1) (fun gk bt ci b9 cl cn wr=>∃(j b' a3:Nat) (wb wp:Bool) (A:Array Int),bt=.int .i64 (j:Int)∧ci=.int .i64 (b':Int)∧b9=.int .i64 (a3:Int)∧cl=.bool wb∧cn=.bool wp ∧
   j≤b'∧b'≤len∧b'-j<gk∧gk≤b-a+1∧a3≤64∧A.size=len∧Below ltInt j b' A∧aH w wr q cap A∧Leaves a b j b' d A)
  case atStart=>exact⟨a,b,bw,true,true,d,rfl,rfl,rfl,rfl,rfl,c7,c8,by omega,by omega,c',c0.out,cv.out,aH.self c4.out,Leaves.refl _ _ _⟩
  case round=>
   obtain⟨j,b',a3,wb,wp,A,rfl,rfl,rfl,rfl,rfl,b7,z,cl,cn,da,ci,bt,hS,bw⟩:=hrel;have J:=aa ci;have cc:=aa bt;have ab:=aa hS;have a5:=aa bw;clear ci bt hS bw;by_cases bt:b'-j≤12
   ·have dj:(b':Int)-(j:Int)≤12:=(by omega);have Y:=aa (yF q cap len j b' A wr ab.out.row J.out b7 z al);have t:=aa (insertionSort_holds swo_ltInt A j b' b7 (by rw[J.out];exact z));go_wp2_with fail;refine Y.out.mono ?_;rintro e bn ⟨rfl,I⟩;have L:=aa (ab.out.trans I);clear I;go_wp2;first|go_end0|refine aq (results_none rfl _ _ _) rfl ?_
    exact⟨rfl,_,(a5.out _ t.out.1 t.out.2).1,(a5.out _ t.out.1 t.out.2).2,L.out⟩
   ·have dj:¬(b':Int)-(j:Int)≤12:=(by omega);by_cases c9:a3=0
    ·subst c9;have Y:=aa (yk q cap len j b' A wr ab.out.row J.out (by omega) z al);have t:=aa (heapSort_holds swo_ltInt A j b' b7 (by rw[J.out];exact z));go_wp2_with fail;refine Y.out.mono ?_;rintro e bn ⟨rfl,I⟩;have L:=aa (ab.out.trans I);clear I;go_wp2;first|go_end0|refine aq (results_none rfl _ _ _) rfl ?_
     exact⟨rfl,_,(a5.out _ t.out.1 t.out.2).1,(a5.out _ t.out.1 t.out.2).2,L.out⟩
    ·have bt:¬(a3:Int)=0:=(by omega);go_upto_if 35 with fail
     go_cut [3] (fun b9 X=>∃(am:Nat) (O:Array Int),b9=.int .i64 (am:Int)∧am≤64∧PermIn j b' A O∧aH w X q cap O)
     case first=>
      cases wb
      ·have Y:=aa (wu q cap len j b' A wr ab.out.row J.out (by omega) z al);go_wp2_with fail;refine Y.out.mono ?_;rintro e bn ⟨rfl,O,B,I⟩;have a8:=aa B;have L:=aa (ab.out.trans I);clear I B;go_wp2_with fail;go_meet;case rel=>exact⟨a3-1,O,by congr 1;omega,by omega,a8.out,L.out⟩
      ·go_wp2_with fail;go_meet;case rel=>exact⟨a3,A,rfl,da,permIn_refl _ _ _,ab.out⟩
     case rest=>
      obtain⟨am,O,rfl,bf,B,a3⟩:=hcut;have a8:=aa B;have b5:=aa a3;have b0:Hid (O.size=len):=aa (B.1.trans J.out);clear B a3;have Y:=aa (wO q cap len j b' O wc b5.out.row b0.out (by omega) z al);go_upto_if 50 with fail
      refine Y.out.mono ?_;rintro e bn ⟨p,h,rfl,a7,B,bt,a3⟩;have L:Hid (aH w bn q cap O):=aa (b5.out.ad a3);clear a3;go_upto_if 50 with fail
      go_cut [11,12] (fun a3 bt X=>∃(p:Nat) (h:Int) (E:Array Int),a3=.int .i64 (p:Int)∧bt=.int .i64 h∧j≤p∧p<b'∧PermIn j b' A E∧aH w X q cap E)
      case first=>
       by_cases S:h=2
       ·subst S;have cS:=aa (By q cap len j b' O bn L.out.row b0.out (by omega) z al);go_wp2_with fail;refine cS.out.mono ?_;rintro e cp ⟨rfl,E,bn,a3⟩;have c3:=aa (permIn_trans _ _ _ _ _ a8.out bn);have br:=aa (L.out.trans a3);clear bn a3;go_wp2_with fail;go_meet;case rel=>exact⟨b'-1-(p-j),1,E,by congr 1;omega,rfl,by omega,by omega,c3.out,br.out⟩
       ·go_wp2_with fail;go_meet;case rel=>exact⟨p,h,O,rfl,rfl,a7,B,a8.out,L.out⟩
      case rest=>
       obtain⟨p,h,E,rfl,rfl,a7,B,O,I⟩:=hcut;have a':=aa O;have br:=aa I;have b1:Hid (E.size=len):=aa (O.1.trans J.out);clear O I;go_upto_region 15 with fail
       go_cut [68] (fun I X=>∃c:Bool,I=.bool c∧aH w X q cap E)
       case first=>
        cases wb<;>cases wp<;>by_cases W:h=1 <;>
         (go_wp2_with fail
          go_meet
          exact⟨_,rfl,br.out⟩)
       case rest=>
        obtain⟨c,rfl,I⟩:=hcut;have bb:=aa I;clear I;go_upto_if 68 with fail
        go_cut [] (fun X=>∃s:Array Int,PermIn j b' A s∧aH w X q cap s)
        case first=>
         cases c
         ·go_wp2_with fail;go_meet;case rel=>exact⟨E,a'.out,bb.out⟩
         ·have bx:=aa (AK q cap len j b' E wc bb.out.row b1.out (by omega) z al);have t:=aa (partialInsertionSort_holds swo_ltInt E j b' (by omega) (by rw[b1.out];exact z) (Below.perm cc.out (by rw[J.out];exact z) a'.out));obtain⟨R,cf⟩:∃R,R=partialInsertionSort ltInt E j b':=⟨_,rfl⟩;rw[←cf]at bx t;clear cf;obtain⟨s,f⟩:=R;cases f
          ·go_wp2_with fail;refine bx.out.mono ?_;rintro e cp ⟨rfl,ad⟩;have N:=aa (bb.out.trans ad);clear ad;go_wp2_with fail;go_meet;case rel=>exact⟨s,permIn_trans _ _ _ _ _ a'.out t.out.1,N.out⟩
          ·go_wp2_with fail;refine bx.out.mono ?_;rintro e cp ⟨rfl,ad⟩;have N:=aa (bb.out.trans ad);clear ad;have cd:=aa (a5.out s (permIn_trans _ _ _ _ _ a'.out t.out.1) (t.out.2 (by trivial)));go_wp2;first|go_end0|refine aq (results_none rfl _ _ _) rfl ?_
           exact⟨rfl,s,cd.out.1,cd.out.2,N.out⟩
        case rest=>
         obtain⟨s,A,ad⟩:=hcut;have E:=aa A;have N:=aa ad;have Z:Hid (s.size=len):=aa (A.1.trans J.out);have cb:Hid (Go.Sort.Below ltInt j b' s):=aa (Below.perm cc.out (by rw[J.out];exact z) A);have b3:Hid (Leaves a b j b' d s):=aa (a5.out.perm A);clear A ad a8 a' b5 L br bb b0 b1 Y ab;obtain⟨g,ch⟩:∃g:Nat→Int,∀A,g A=s[A]!:=⟨fun A=>s[A]!,fun _=>rfl⟩;have bq:=aa ch;clear ch;go_upto_region 17 with fail
         go_cut [87] (fun A X=>∃bp:Bool,A=.bool bp∧(bp=true→0<j∧ltInt (g (j-1)) (g p)=false)∧aH w X q cap s)
         case first=>
          have A:wc.cell? ⟨q,p,none⟩=some (.int .u32 (g p)):=(by rw[bq.out];exact N.out.row.cell p (by rw[Z.out];omega));have A:(p:Int)<(len:Int):=(by omega);rcases Nat.eq_zero_or_pos j with bv|bv
          ·subst bv;go_big_quiet (first|(go_at_call 222;exact aQ (aS _ _ _)))
           go_wp2_with fail;go_meet;case rel=>exact⟨false,rfl,(fun h=>by cases h),N.out.drewN nq⟩
          ·have A:(j:Int) > 0:=(by omega);have A:((j:Int)-1).toNat=j-1:=(by omega);have A:(0:Int)≤(j:Int)-1:=(by omega);have A:(j:Int)-1<(len:Int):=(by omega);have A:wc.cell? ⟨q,j-1,none⟩=some (.int .u32 (g (j-1))):=(by rw[bq.out];exact N.out.row.cell (j-1) (by rw[Z.out];omega));rcases fA (ltInt (g (j-1)) (g p))with cg|cg
           ·go_big_quiet (first|(go_at_call 222;exact aQ (aS _ _ _)))
            go_wp2_with fail;go_meet;case rel=>exact⟨true,rfl,(fun _=>⟨by omega,cg⟩),N.out.drewN nq⟩
           ·go_big_quiet (first|(go_at_call 222;exact aQ (aS _ _ _)))
            go_wp2_with fail;go_meet;case rel=>exact⟨false,rfl,(fun h=>by cases h),N.out.drewN nq⟩
         case rest=>
          obtain⟨bp,rfl,A,E⟩:=hcut;have bs:=aa E;have cE:=aa A;clear E A N;cases bp
          ·obtain⟨mid,a0⟩:∃x,x=(partition ltInt s j b' p).1:=⟨_,rfl⟩;obtain⟨ap,b8⟩:∃x,x=(partition ltInt s j b' p).2.1:=⟨_,rfl⟩;obtain⟨d4,aw⟩:∃x,x=(partition ltInt s j b' p).2.2:=⟨_,rfl⟩;have t:=round_part (d4:=d4) (mid:=mid) (ap:=ap) swo_ltInt (partition_holds ltInt) a7 B (by rw[Z.out];exact z) cb.out (by rw[a0,b8,aw]);obtain⟨db,co,bi,A,E,I,J⟩:=t;have T:=Au q cap len j b' p s wc bs.out.row Z.out a7 B z al;rw[←a0,←b8,←aw]at T;have T:=aa T;have a4:Hid (d4.size=len):=aa (bi.trans Z.out);have cy:=aa A;have cD:=aa E;have c2:=aa I;have c5:=aa J;clear a0 b8 aw bi A E I J;go_upto_if 113 with fail
           refine T.out.mono ?_;rintro e ca ⟨rfl,bd⟩;have a6:=aa (bs.out.trans bd);clear bd;go_upto_if 113 with fail
           by_cases A:mid-j<b'-mid
           ·have c6:(mid:Int)-(j:Int)<(b':Int)-(mid:Int):=(by omega);have bD:=aa (ce.out j mid am d4 ca (by omega) a6.out.row a4.out (by omega) (by omega) bf cy.out);go_wp2_with fail;refine bD.out.mono ?_;rintro e dk ⟨rfl,U,a1,bg,be⟩;have b2:Hid (U.size=len):=aa (a1.1.trans a4.out);have av:=aa (c2.out U a1 bg);have b6:=aa (a6.out.trans be);have b4:Hid (Leaves a b (mid+1) b' d U):=aa (fun R W S=>b3.out R (av.out.2 R W S).1 (av.out.2 R W S).2);clear a1 bg be;go_wp2_with fail;go_roundg (gk-1)
            case rel=>exact⟨mid+1,b',am,_,ap,U,rfl,rfl,rfl,rfl,rfl,by omega,z,by omega,by omega,bf,b2.out,av.out.1,b6.out,b4.out⟩
            case measure=>omega
           ·have c6:¬((mid:Int)-(j:Int)<(b':Int)-(mid:Int)):=(by omega);have bD:=aa (ce.out (mid+1) b' am d4 ca (by omega) a6.out.row a4.out (by omega) (by omega) bf cD.out);go_wp2_with fail;refine bD.out.mono ?_;rintro e dk ⟨rfl,U,a1,bg,be⟩;have b2:Hid (U.size=len):=aa (a1.1.trans a4.out);have av:=aa (c5.out U a1 bg);have b6:=aa (a6.out.trans be);have b4:Hid (Leaves a b j mid d U):=aa (fun R W S=>b3.out R (av.out.2 R W S).1 (av.out.2 R W S).2);clear a1 bg be;go_wp2_with fail;go_roundg (gk-1)
            case rel=>exact⟨j,mid,am,_,ap,U,rfl,rfl,rfl,rfl,rfl,by omega,by omega,by omega,by omega,bf,b2.out,av.out.1,b6.out,b4.out⟩
            case measure=>omega
          ·obtain⟨bv,cj⟩:=cE.out rfl;obtain⟨mid,a0⟩:∃x,x=(partitionEqual ltInt s j b' p).1:=⟨_,rfl⟩;obtain⟨d4,aw⟩:∃x,x=(partitionEqual ltInt s j b' p).2:=⟨_,rfl⟩;have t:=round_eq (d4:=d4) (mid:=mid) swo_ltInt (partitionEqual_holds ltInt) bv a7 B (by rw[Z.out];exact z) cb.out (by rw[←bq.out,←bq.out];exact cj) (by rw[a0,aw]);obtain⟨db,co,bi,E,A⟩:=t;have T:=AB q cap len j b' p s wc bs.out.row Z.out a7 B z al;rw[←a0,←aw]at T;have T:=aa T;have a4:Hid (d4.size=len):=aa (bi.trans Z.out);have cx:=aa E;have c1:Hid (Leaves a b mid b' d d4):=aa (fun R W S=>b3.out R (A R W S).1 (A R W S).2);clear a0 aw bi E A cj;go_wp2_with fail;refine T.out.mono ?_;rintro e ca ⟨rfl,bd⟩;have a6:=aa (bs.out.trans bd);clear bd;go_wp2_with fail;go_roundg (gk-1)
           case rel=>exact⟨mid,b',am,wb,wp,d4,rfl,rfl,rfl,rfl,rfl,co,z,by omega,by omega,bf,a4.out,cx.out,a6.out,c1.out⟩
           case measure=>omega
theorem yG (w:World):Calls Tryz.prog 216 #[.slice none 0 0,.int .i64 0,.int .i64 0] w fun e w'=>e=.returned (.tuple #[])∧w'=w:=by
 go_enter Tryz.func216,Tryz.ntmps216;go_wp2;refine wp_loop_rounds 1 ?_;rw[rounds_succ];go_wp2;first|go_end0|refine aq (results_none rfl _ _ _) rfl ?_
 exact⟨rfl,rfl⟩
theorem AA (j:Int)(w:World):Calls Tryz.prog 178 #[.slice none 0 0,.int .i64 0,.int .i64 0,.int .i64 j] w fun e w'=>e=.returned (.tuple #[])∧w'=w:=by
 go_enter Tryz.func178,Tryz.ntmps178;go_wp2;refine wp_loop_rounds 1 ?_;rw[rounds_succ];go_wp2_with (go_at_call 216;refine(yG _).mono ?_;rintro e w' ⟨rfl,rfl⟩)
 first|go_end0|refine aq (results_none rfl _ _ _) rfl ?_
 exact⟨rfl,rfl⟩
theorem zp (w:World):Calls Tryz.prog 179 #[.int .u64 0] w fun e w'=>∃n:Nat,n≤64∧e=.returned (.int .i64 n)∧w'=w:=by
 have j:=aa (rO 0 w (by omega) (by omega));go_enter Tryz.func179,Tryz.ntmps179;go_wp2_with (go_at_call 226;refine j.out.mono ?_;rintro e w' ⟨rfl,rfl⟩)
 go_ret;exact⟨_,by decide,rfl,rfl⟩
theorem C3 (w:World):Calls Tryz.prog 112 #[.slice none 0 0] w fun e w'=>e=.returned (.tuple #[])∧w'=w:=by
 go_enter Tryz.func112,Tryz.ntmps112;go_wp2_with (first|(go_at_call 179;refine(zp _).mono ?_;rintro e w' ⟨n,j,rfl,rfl⟩)|(go_at_call 178;refine(AA _ _).mono ?_;rintro e w' ⟨rfl,rfl⟩))
 first|go_end0|refine aq (results_none rfl _ _ _) rfl ?_
 exact⟨rfl,rfl⟩
theorem C0 (j cap len:Nat)(d:Array Int)(w:World)(q:bP w j cap d)(I:d.size=len)(E:0<len)(J:len≤1048576) :
  Calls Tryz.prog 112 #[.slice (some ⟨j,0,none⟩) len cap] w fun e w'=>
   e=.returned (.tuple #[])∧∃d',PermIn 0 len d d'∧SortedIn ltInt 0 len d'∧aH w w' j cap d':=by
 have s:=aa (rP (len:Int) w (by omega) (by omega))
 have E:=oN (len:Int) (by omega) (by omega)
 have t:=aa (Az j cap len J (len+1) 0 len (Lib.bitLen (len:Int).toNat) d w (by omega) q I (by omega) (by omega) (by have:=E.1;omega) (.inl rfl))
 clear q
 go_enter Tryz.func112,Tryz.ntmps112
 go_wp2_with fail
 refine s.out.mono ?_
 rintro e w1 ⟨rfl,rfl⟩
 go_wp2_with fail
 refine t.out.mono ?_
 rintro e j ⟨rfl,d',z,A,B⟩
 go_wp2
 first|go_end0|refine aq (results_none rfl _ _ _) rfl ?_
 exact⟨rfl,d',z,A,B⟩
end Go.Proofs.YtafkamlhimkbmaaGreat
