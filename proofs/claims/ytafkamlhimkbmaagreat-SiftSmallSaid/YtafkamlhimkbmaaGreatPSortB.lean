/-
  slices.Sort at uint32, part 6: bits.Len, nextPowerOfTwo, xorshift.Next, breakPatternsOrdered.
-/
import Derived.Test.YtafkamlhimkbmaaGreatPSortA
import Derived.Lib.Tables
import Derived.Lib.BitFns
import Derived.OpenShut
import Derived.Laws.BitsAll
import Derived.Laws.Bits64b
import Derived.Sort.LotC
namespace Go.Proofs.YtafkamlhimkbmaaGreat
set_option maxRecDepth 1000000
set_option maxHeartbeats 8000000
set_option linter.unusedSimpArgs false
set_option linter.unusedVariables false
open Go.RowKit Go.Sort

theorem oR:∀(f x:Nat),x<2 ^ f→x<2 ^ Lib.bitLenAux f x
 |0,x,h=>by simpa[Lib.bitLenAux]using h
 |f+1,x,h=>by
  unfold Lib.bitLenAux;split;·omega
  ·have:=oR f (x / 2) (by rw[Nat.pow_succ]at h;omega);rw[Nat.add_comm 1,Nat.pow_succ];omega

theorem bitLen_le:∀(f x:Nat),0<x→2 ^ Lib.bitLenAux f x≤2*x
 |0,x,h=>by simp[Lib.bitLenAux];omega
 |f+1,x,h=>by
  unfold Lib.bitLenAux;split;·omega
  ·rw[Nat.add_comm 1,Nat.pow_succ];by_cases j:x / 2=0
   ·rw[j];have:Lib.bitLenAux f 0=0:=by cases f<;>simp[Lib.bitLenAux]
    rw[this];omega
   ·have:=bitLen_le f (x / 2) (by omega);omega

def su (x:Int)(r:Nat):Prop:=r≤21∧x.toNat<2 ^ r∧2 ^ r≤2*x.toNat

theorem mH (x:Int)(j:0<x)(q:x≤1048576):su x (Lib.bitLen x.toNat):=by
 have a:=oR 64 x.toNat (by have:(2:Nat) ^ 64=18446744073709551616:=rfl;omega);have b:=bitLen_le 64 x.toNat (by omega);refine⟨Nat.le_of_not_lt fun h=>?_,a,b⟩;have:2 ^ 22≤2 ^ Lib.bitLen x.toNat:=Nat.pow_le_pow_right (by decide) h;have e:(2:Nat) ^ 22=4194304:=rfl;have b':2 ^ Lib.bitLen x.toNat≤2*x.toNat:=b;omega

theorem pg (k:Nat)(d:Int)(j:0≤d)(q:d≤255)(s:k≤16):wrap64 ((k:Int)+wrap64 (Lib.len8 d))=((k+Lib.bitLen d.toNat:Nat):Int):=by
 rw[Lib.len8_of d j q];have:=Lib.bitLen_le8' d j q;unfold wrap64;omega

theorem vo (x:Int)(j:0≤x)(q:x≤255):wrap64 (wrap64 (Lib.len8 x))=(Lib.bitLen x.toNat:Int):=by
 rw[Lib.len8_of x j q];have:=Lib.bitLen_le8' x j q;unfold wrap64;omega

theorem vp (x:Int)(j:256≤x)(q:x≤65535):wrap64 (8+wrap64 (Lib.len8 (x / 256)))=(Lib.bitLen x.toNat:Int):=by
 rw[Lib.bitLen_shift8 x.toNat (by omega) (by omega),show x.toNat / 256=(x / 256).toNat by omega];exact pg 8 (x / 256) (by omega) (by omega) (by decide)

theorem vq (x:Int)(j:65536≤x)(q:x≤1048576):wrap64 (16+wrap64 (Lib.len8 (x / 65536)))=(Lib.bitLen x.toNat:Int):=by
 rw[Lib.bitLen_shift16 x.toNat (by omega) (by omega),show x.toNat / 65536=(x / 65536).toNat by omega];exact pg 16 (x / 65536) (by omega) (by omega) (by decide)

theorem pW (x:Int)(w:World)(j:0≤x)(q:x≤255):Calls Tryz.prog 226 #[.int .u64 x] w fun e w'=>e=.returned (.int .i64 (Lib.bitLen x.toNat))∧w'=w:=by
 have s:=Tryz.underlying9;have s:0≤x:=by omega
 have s:x≤255:=by omega
 have F:=Lib.hid (vo x j q);go_enter Tryz.func226,Tryz.ntmps226
 go_wp2
 all_goals go_ret
 all_goals exact⟨congrArg Ending.returned (congrArg (Value.int IntKind.i64) F.out),rfl⟩

theorem xw (x:Int)(w:World)(j:256≤x)(q:x≤65535):Calls Tryz.prog 226 #[.int .u64 x] w fun e w'=>e=.returned (.int .i64 (Lib.bitLen x.toNat))∧w'=w:=by
 have s:=Tryz.underlying9;have s:0≤x / 256:=by omega
 have s:x / 256≤255:=by omega
 have F:=Lib.hid (vp x j q);go_enter Tryz.func226,Tryz.ntmps226
 go_wp2
 all_goals go_ret
 all_goals exact⟨congrArg Ending.returned (congrArg (Value.int IntKind.i64) F.out),rfl⟩

theorem xx (x:Int)(w:World)(j:65536≤x)(q:x≤1048576):Calls Tryz.prog 226 #[.int .u64 x] w fun e w'=>e=.returned (.int .i64 (Lib.bitLen x.toNat))∧w'=w:=by
 have s:=Tryz.underlying9;have s:0≤x / 65536:=by omega
 have s:x / 65536≤255:=by omega
 have F:=Lib.hid (vq x j q);go_enter Tryz.func226,Tryz.ntmps226
 go_wp2
 all_goals go_ret
 all_goals exact⟨congrArg Ending.returned (congrArg (Value.int IntKind.i64) F.out),rfl⟩

theorem xy (x:Int)(w:World)(j:0<x)(q:x≤1048576):Calls Tryz.prog 226 #[.int .u64 x] w fun e w'=>e=.returned (.int .i64 (Lib.bitLen x.toNat))∧w'=w:=by
 by_cases j:x≤255;·exact pW x w (by omega) j
 ·by_cases j:x≤65535;·exact xw x w (by omega) j
  ·exact xx x w (by omega) q

theorem mI (x:Int)(w:World)(q:0<x)(s:x≤1048576):Calls Tryz.prog 179 #[.int .u64 x] w fun e w'=>e=.returned (.int .i64 (Lib.bitLen x.toNat))∧w'=w:=by
 have j:=Lib.hid (xy x w q s);go_enter Tryz.func179,Tryz.ntmps179
 go_wp2_with (go_at_call 226;refine j.out.mono ?_;rintro e w' ⟨rfl,rfl⟩)
 go_ret
 exact⟨rfl,rfl⟩

theorem yQ (x:Int)(w:World)(s:0<x)(t:x≤1048576):Calls Tryz.prog 252 #[.int .i64 x] w fun e w'=>e=.returned (.int .u64 (2 ^ Lib.bitLen x.toNat:Nat))∧w'=w:=by
 have q:=Lib.hid (mI x w s t);have j:=mH x s t;obtain⟨r,E⟩:∃r,r=Lib.bitLen x.toNat:=⟨_,rfl⟩;rw[←E]at j q ⊢;clear E;go_enter Tryz.func252,Tryz.ntmps252
 go_wp2_with (go_at_call 179;refine q.out.mono ?_;rintro e w' ⟨rfl,rfl⟩)
 go_ret
 have J:IntKind.u64.wrap ((2:Int) ^ min r 64)=((2 ^ r:Nat):Int):=by
  have z:(2:Nat) ^ r≤2 ^ 21:=Nat.pow_le_pow_right (by decide) j.1;have I:(2:Nat) ^ 21=2097152:=rfl;have A:((2 ^ r:Nat):Int)=(2:Int) ^ r:=by push_cast;rfl
  rw[Nat.min_eq_left (by have:=j.1;omega),IntKind.wrap_u64,←A];rw[I]at z;clear A;generalize (2:Nat) ^ r=j at z ⊢;omega
 exact⟨congrArg Ending.returned (congrArg (Value.int IntKind.u64) J),rfl⟩

structure kc (w w':World)(sb:Nat)(n:Int):Prop where
 av:ae (fun k=>k=sb) w w'
 cell:w'.cell? ⟨sb,0,none⟩=some (.int .u64 n)
 free:w'.frozen? ⟨sb,0,none⟩=false

theorem wf_u64 {n:Int}(h:(Lit.int .u64 n).wf=true):0≤n∧n≤18446744073709551615:=by
 unfold Lit.wf at h;simp only[Bool.and_eq_true,decide_eq_true_eq]at h;exact h

theorem CM (j:Nat)(n:Int)(w:World)(a2:w.cell? ⟨j,0,none⟩=some (.int .u64 n))(a3:w.frozen? ⟨j,0,none⟩=false)(a8:0≤n)(a5:n≤18446744073709551615) :
  Calls Tryz.prog 253 #[.pointer (some ⟨j,0,none⟩)] w fun e w'=>∃m:Int,e=.returned (.int .u64 m)∧0≤m∧m≤18446744073709551615∧kc w w' j m:=by
 go_enter Tryz.func253,Tryz.ntmps253
 go_wp2_with fail
 go_region
 obtain⟨q,J⟩:∃v,v=bits BinOp.xor IntKind.u64 n (IntKind.u64.wrap (n*8192)):=⟨_,rfl⟩
 have X:0≤q∧q≤18446744073709551615:=by rw[J];exact wf_u64 (Go.wf_bits .xor .u64 _ _)
 rw[←J]
 obtain⟨w1,N⟩:∃x,x=(w.setCell ⟨j,0,none⟩ (.int .u64 q)).drew:=⟨_,rfl⟩
 have A:kc w w1 j q:=by
  rw[N];exact⟨((ae.refl (fun k=>k=j) w).setCell (p:=⟨j,0,none⟩) (Or.inl rfl) _).drew,by simp[go_sem,a2],by show World.frozen? (w.setCell _ _) _=_;rw[World.frozen?_setCell];exact a3⟩
 rw[←N]
 clear N J
 obtain⟨N,J⟩:=X
 have ab:=A.cell
 have av:=A.free
 have T:=Lib.hid A
 clear A
 go_wp2_with fail
 go_region
 obtain⟨s,K⟩:∃v,v=bits BinOp.xor IntKind.u64 q (q / 128):=⟨_,rfl⟩
 have Y:0≤s∧s≤18446744073709551615:=by rw[K];exact wf_u64 (Go.wf_bits .xor .u64 _ _)
 rw[←K]
 obtain⟨z,O⟩:∃x,x=(w1.setCell ⟨j,0,none⟩ (.int .u64 s)).drew:=⟨_,rfl⟩
 have E:kc w1 z j s:=by
  rw[O];exact⟨((ae.refl (fun k=>k=j) w1).setCell (p:=⟨j,0,none⟩) (Or.inl rfl) _).drew,by simp[go_sem,ab],by show World.frozen? (w1.setCell _ _) _=_;rw[World.frozen?_setCell];exact av⟩
 rw[←O]
 clear O K
 obtain⟨a5,q⟩:=Y
 have ad:=E.cell
 have aw:=E.free
 have U:=Lib.hid E
 clear E
 go_wp2_with fail
 go_region
 obtain⟨t,L⟩:∃v,v=bits BinOp.xor IntKind.u64 s (IntKind.u64.wrap (s*131072)):=⟨_,rfl⟩
 have Z:0≤t∧t≤18446744073709551615:=by rw[L];exact wf_u64 (Go.wf_bits .xor .u64 _ _)
 rw[←L]
 obtain⟨a7,S⟩:∃x,x=(z.setCell ⟨j,0,none⟩ (.int .u64 t)).drew:=⟨_,rfl⟩
 have I:kc z a7 j t:=by
  rw[S];exact⟨((ae.refl (fun k=>k=j) z).setCell (p:=⟨j,0,none⟩) (Or.inl rfl) _).drew,by simp[go_sem,ad],by show World.frozen? (z.setCell _ _) _=_;rw[World.frozen?_setCell];exact aw⟩
 rw[←S]
 clear S L
 obtain⟨a6,a4⟩:=Z
 have am:=I.cell
 have a1:=I.free
 have W:=Lib.hid I
 clear I
 go_wp2
 go_ret
 exact⟨t,rfl,a6,a4,(T.out.av.a' U.out.av).a' W.out.av,am,a1⟩

theorem sI (m:Int)(c:Nat)(j:0≤m)(s:m≤18446744073709551615)(q:c<18446744073709551616):0≤bits BinOp.and IntKind.u64 m (c:Int)∧bits BinOp.and IntKind.u64 m (c:Int)≤(c:Int):=by
 obtain⟨k,rfl⟩:=Int.eq_ofNat_of_zero_le j;rw[bits_and_u64_nat k c (by omega) q];have:=Nat.and_le_right (n:=k) (m:=c);omega

theorem tS (q cap len a b:Nat)(d:Array Int)(w:World)(a7:bh w q cap d)(bq:d.size=len)(b0:a+13≤b)(av:b≤len)(b8:len≤1048576) :
  Calls Tryz.prog 218 #[.slice (some ⟨q,0,none⟩) len cap,.int .i64 a,.int .i64 b] w fun e w'=>
   e=.returned (.tuple #[])∧∃d',PermIn a b d d'∧aA w w' q cap d':=by
 have a5:q≠w.heap.size:=by have:=a7.lt;omega
 obtain⟨A,br⟩:∃A:Nat,A=(b-a) / 4:=⟨_,rfl⟩
 have b0:3≤A:=by omega
 have b0:4*A≤b-a:=by omega
 have bs:((b:Int)-(a:Int)) / 4=(A:Int):=by omega
 have b0:(8:Int)≤(b:Int)-(a:Int):=by omega
 have am:=mH ((b:Int)-(a:Int)) (by omega) (by omega)
 have a2:=Lib.hid (fun b0=>yQ ((b:Int)-(a:Int)) b0 (by omega) (by omega))
 obtain⟨r,bt⟩:∃r,r=Lib.bitLen ((b:Int)-(a:Int)).toNat:=⟨_,rfl⟩
 rw[←bt]at am a2
 clear bt
 obtain⟨K,aw⟩:∃K:Nat,K=2 ^ r:=⟨_,rfl⟩
 rw[←aw]at a2
 have bt:K≤2*(b-a):=by have:=am.2.2;rw[←aw]at this;omega
 have bt:b-a<K:=by have:=am.2.1;rw[←aw]at this;omega
 clear am aw
 have am:=Lib.hid br
 have bw:=Lib.hid a7
 have bv:=Lib.hid bq
 clear br a7 bq
 go_enter Tryz.func218,Tryz.ntmps218
 go_wp2_with (go_at_call 252;refine(a2.out _).mono ?_;rintro e w' ⟨rfl,rfl⟩)
 have b3:bh (w.alloc (.cells #[.int .u64 ((b:Int)-(a:Int))] 312)) q cap d:=bw.out.a5 (G:=fun _=>False) ((ae.refl _ w).alloc _) (fun h=>h)
 have bg:=Lib.hid bs
 clear bs
 go_loopg [9] 3 (fun gk am wr=>∃(x:Nat) (s:Array Int) (v:Int),x+gk=a+2*A+2∧a+2*A≤x+1∧am=.int .i64 (x:Int)∧PermIn a b d s∧aA w wr q cap s∧wr.cell? ⟨w.heap.size,0,none⟩=some (.int .u64 v)∧wr.frozen? ⟨w.heap.size,0,none⟩=false∧0≤v∧v≤18446744073709551615∧w.heap.size<wr.heap.size)
 case atStart=>exact⟨a+2*A-1,d,(b:Int)-(a:Int),by omega,by omega,by congr 1;omega,permIn_refl _ _ _,⟨(ae.refl _ w).alloc _,b3⟩,by simp[go_sem],by simp[go_sem],by omega,by omega,by simp⟩
 case round=>
  obtain⟨x,s,v,b7,b9,rfl,am,hS,aw,a2,bq,br,b5⟩:=hrel;have a7:s.size=len:=am.1.trans bv.out;have I:=Lib.hid hS;have W:=Lib.hid am;have t:=Lib.hid a7;clear hS am a7;by_cases am:x≤a+2*A+1
  ·have b1:(x:Int)≤(a:Int)+((b:Int)-(a:Int)) / 4*2+1:=(by rw[bg.out];omega);have bx:=Lib.hid (CM w.heap.size v wr aw a2 bq br);clear aw a2;go_wp2_with fail
   refine bx.out.mono ?_;rintro e w1 ⟨m,rfl,Y,Z,z⟩;have b4:¬w.heap.size=q:=fun h=>a5 h.symm
   have bi:aA w w1 q cap s:=⟨⟨z.av.os.trans I.out.av.os,z.av.tape.trans I.out.av.tape,z.av.output.trans I.out.av.output,Nat.le_trans I.out.av.size z.av.size,fun k A am=>by
    rw[z.av.block k (Nat.lt_of_lt_of_le A I.out.av.size) (by omega),I.out.av.block k A am]⟩,I.out.row.a5 z.av a5⟩
   have a1:w.heap.size<w1.heap.size:=Nat.lt_of_lt_of_le b5 z.av.size
   have bn:∀(y aw:Nat) (A am:Value) (n:Nat),(((w1.drewN n).setCell ⟨q,y,none⟩ A).setCell ⟨q,aw,none⟩ am).cell? ⟨w.heap.size,0,none⟩=some (.int .u64 m)∧(((w1.drewN n).setCell ⟨q,y,none⟩ A).setCell ⟨q,aw,none⟩ am).frozen? ⟨w.heap.size,0,none⟩=false:=by
    intro y aw A am n;refine⟨?_,?_⟩;·simp[go_sem,b4,a5,z.cell]
    ·rw[World.frozen?_setCell,World.frozen?_setCell];exact z.free
   have J:=Lib.hid bi;have E:=Lib.hid bn;clear bi bn z;have a6:=sI m (K-1) Y Z (by omega);obtain⟨o,z⟩:=Int.eq_ofNat_of_zero_le a6.1;have A:o≤K-1:=(by have:=a6.2;rw[z]at this;omega);rw[show((K-1:Nat):Int)=(K:Int)-1 by omega]at z;clear a6;obtain⟨g,bp⟩:∃g:Nat→Int,∀j,g j=s[j]!:=⟨fun j=>s[j]!,fun _=>rfl⟩;have L:=Lib.hid bp;clear bp;have ab:w1.cell? ⟨q,x,none⟩=some (.int .u32 (g x)):=(by rw[L.out];exact J.out.row.cell x (by rw[t.out];omega));have ad:w1.frozen? ⟨q,x,none⟩=false:=J.out.row.frozen x;have rx:(x:Int)<(len:Int):=(by omega);by_cases z:b-a≤o
   ·obtain⟨j,a8⟩:∃j:Nat,j=o-(b-a):=⟨_,rfl⟩;have z:(o:Int)-((b:Int)-(a:Int))=(j:Int):=(by omega);have b2:(b:Int)-(a:Int)≤(o:Int):=(by omega);have b6:a+j<b:=(by omega);clear a8;have N:=fun n=>J.out.ca n x (a+j) (by rw[t.out];omega) (by rw[t.out];omega);rw[←L.out,←L.out]at N;have X:Hid (∀n,aA w (((w1.drewN n).setCell ⟨q,x,none⟩ (.int .u32 (g (a+j)))).setCell ⟨q,a+j,none⟩ (.int .u32 (g x))) q cap (swp s x (a+j))):=Lib.hid N;clear N;go_wp2_with fail
    by_cases a':x=a+j
    ·skip
     subst a';have U:IntKind.i64.wrap ((a:Int)+(j:Int))=(a:Int)+(j:Int):=IntWalk.i64_in _ ⟨by omega,by omega⟩;have O:((a:Int)+(j:Int)).toNat=a+j:=(by omega);have S:(0:Int)≤(a:Int)+(j:Int):=(by omega);have T:(a:Int)+(j:Int)<(len:Int):=(by omega);go_region
     clear U O S T ab ad;go_wp2
     go_roundg (gk-1)
     case rel=>exact⟨a+j+1,_,m,by omega,by omega,by first|rfl|go_num,permIn_trans _ _ _ _ _ W.out (swp_permIn s a b (a+j) (a+j) (by omega) (by omega) (by omega) (by omega) (by rw[t.out];exact av)),X.out 1,(E.out _ _ _ _ 1).1,(E.out _ _ _ _ 1).2,Y,Z,by simp only[World.a3,World.size_setCell];exact a1⟩
     case measure=>omega
    ·skip
     have bb:¬a+j=x:=(by omega);have be:¬x=a+j:=(by omega);have a3:w1.cell? ⟨q,a+j,none⟩=some (.int .u32 (g (a+j))):=(by rw[L.out];exact J.out.row.cell (a+j) (by rw[t.out];omega));have a4:w1.frozen? ⟨q,a+j,none⟩=false:=J.out.row.frozen (a+j);have O:((a:Int)+(j:Int)).toNat=a+j:=(by omega);have S:(0:Int)≤(a:Int)+(j:Int):=(by omega);have T:(a:Int)+(j:Int)<(len:Int):=(by omega);have U:IntKind.i64.wrap ((a:Int)+(j:Int))=(a:Int)+(j:Int):=IntWalk.i64_in _ ⟨by omega,by omega⟩;go_region
     clear U bb be a3 a4 O S T ab ad;go_wp2
     go_roundg (gk-1)
     case rel=>exact⟨x+1,_,m,by omega,by omega,by first|rfl|go_num,permIn_trans _ _ _ _ _ W.out (swp_permIn s a b x (a+j) (by omega) (by omega) (by omega) (by omega) (by rw[t.out];exact av)),X.out 1,(E.out _ _ _ _ 1).1,(E.out _ _ _ _ 1).2,Y,Z,by simp only[World.a3,World.size_setCell];exact a1⟩
     case measure=>omega
   ·obtain⟨j,a8⟩:∃j:Nat,j=o:=⟨_,rfl⟩;subst a8;have b2:¬(b:Int)-(a:Int)≤(j:Int):=(by omega);have b6:a+j<b:=(by omega);have N:=fun n=>J.out.ca n x (a+j) (by rw[t.out];omega) (by rw[t.out];omega);rw[←L.out,←L.out]at N;have X:Hid (∀n,aA w (((w1.drewN n).setCell ⟨q,x,none⟩ (.int .u32 (g (a+j)))).setCell ⟨q,a+j,none⟩ (.int .u32 (g x))) q cap (swp s x (a+j))):=Lib.hid N;clear N;go_wp2_with fail
    by_cases a':x=a+j
    ·skip
     subst a';have U:IntKind.i64.wrap ((a:Int)+(j:Int))=(a:Int)+(j:Int):=IntWalk.i64_in _ ⟨by omega,by omega⟩;have O:((a:Int)+(j:Int)).toNat=a+j:=(by omega);have S:(0:Int)≤(a:Int)+(j:Int):=(by omega);have T:(a:Int)+(j:Int)<(len:Int):=(by omega);go_region
     clear U O S T ab ad;go_wp2
     go_roundg (gk-1)
     case rel=>exact⟨a+j+1,_,m,by omega,by omega,by first|rfl|go_num,permIn_trans _ _ _ _ _ W.out (swp_permIn s a b (a+j) (a+j) (by omega) (by omega) (by omega) (by omega) (by rw[t.out];exact av)),X.out 1,(E.out _ _ _ _ 1).1,(E.out _ _ _ _ 1).2,Y,Z,by simp only[World.a3,World.size_setCell];exact a1⟩
     case measure=>omega
    ·skip
     have bb:¬a+j=x:=(by omega);have be:¬x=a+j:=(by omega);have a3:w1.cell? ⟨q,a+j,none⟩=some (.int .u32 (g (a+j))):=(by rw[L.out];exact J.out.row.cell (a+j) (by rw[t.out];omega));have a4:w1.frozen? ⟨q,a+j,none⟩=false:=J.out.row.frozen (a+j);have O:((a:Int)+(j:Int)).toNat=a+j:=(by omega);have S:(0:Int)≤(a:Int)+(j:Int):=(by omega);have T:(a:Int)+(j:Int)<(len:Int):=(by omega);have U:IntKind.i64.wrap ((a:Int)+(j:Int))=(a:Int)+(j:Int):=IntWalk.i64_in _ ⟨by omega,by omega⟩;go_region
     clear U bb be a3 a4 O S T ab ad;go_wp2
     go_roundg (gk-1)
     case rel=>exact⟨x+1,_,m,by omega,by omega,by first|rfl|go_num,permIn_trans _ _ _ _ _ W.out (swp_permIn s a b x (a+j) (by omega) (by omega) (by omega) (by omega) (by rw[t.out];exact av)),X.out 1,(E.out _ _ _ _ 1).1,(E.out _ _ _ _ 1).2,Y,Z,by simp only[World.a3,World.size_setCell];exact a1⟩
     case measure=>omega
  ·have b1:¬(x:Int)≤(a:Int)+((b:Int)-(a:Int)) / 4*2+1:=(by rw[bg.out];omega);go_wp2
   first|go_end0|refine bodyPost_ret (results_none rfl _ _ _) rfl ?_
   exact⟨rfl,s,W.out,I.out⟩

theorem ou (p:Int→Bool)(d:Array Int)(j i:Nat)(h:i≤j)(q:p d[i]! = true):scanUp p d j (i+1) = scanUp p d j i:=by
 rw[scanUp.eq_1 p d j i,if_pos (by simp[h,q])]
theorem je (p:Int→Bool)(d:Array Int)(j i:Nat)(h:¬i≤j∨p d[i]! = false):scanUp p d j i = i:=by
 rw[scanUp,if_neg (by rcases h with h|h<;>simp[h])]
theorem mh (p:Int→Bool)(d:Array Int)(i j:Nat)(h:i≤j)(s:0<j)(q:p d[j]! = true):scanDown p d i (j-1) = scanDown p d i j:=by
 obtain⟨k,rfl⟩:∃k,j=k+1:=⟨j-1,by omega⟩;rw[scanDown,if_pos (by simp[h,q])];rfl
theorem gn (p:Int→Bool)(d:Array Int)(i j:Nat)(h:¬i≤j∨p d[j]! = false):scanDown p d i j = j:=by
 cases j with
 |zero=>rfl
 |succ k=>rw[scanDown,if_neg (by rcases h with h|h<;>simp[h])]

theorem qD (a i s:Nat)(j:Array Int){q t:Nat}(z:scanUp (fun x=>!ltInt j[a]! x) j s i=q)(A:scanDown (fun x=>ltInt j[a]! x) j q s=t)(h:t<q):partEqLoop ltInt a i s j=(q,j):=by
 subst z;subst A;rw[partEqLoop_eq,if_pos h]
theorem yG (a i s:Nat)(j:Array Int){q t:Nat}(z:scanUp (fun x=>!ltInt j[a]! x) j s i=q)(A:scanDown (fun x=>ltInt j[a]! x) j q s=t)(h:¬q > t):partEqLoop ltInt a (q+1) (t-1) (swp j q t)=partEqLoop ltInt a i s j:=by
 subst z;subst A;rw[partEqLoop_eq ltInt a i s,if_neg h]

theorem yF (z cap len a b E:Nat)(d:Array Int)(w:World)(O:bh w z cap d)(bq:d.size=len)(cg:a≤E)(cl:E<b)(ch:b≤len)(cn:len≤1048576) :
  Calls Tryz.prog 223 #[.slice (some ⟨z,0,none⟩) len cap,.int .i64 a,.int .i64 b,.int .i64 E] w fun e w'=>
   e=.returned (.int .i64 (partitionEqual ltInt d a b E).1)∧aA w w' z cap (partitionEqual ltInt d a b E).2:=by
 have bg:=aA.self O
 have N:=fun n=>bg.ca n a E (by omega) (by omega)
 obtain⟨g,Y⟩:∃g:Nat→Int,∀K,g K=d[K]!:=⟨fun K=>d[K]!,fun _=>rfl⟩
 rw[←Y,←Y]at N
 have a8:=Lib.hid N
 have b3:Hid ((swp d a E).size=len):=Lib.hid (by rw[size_swp];exact bq)
 have b4:w.cell? ⟨z,a,none⟩=some (.int .u32 (g a)):=by rw[Y];exact O.cell a (by omega)
 have b5:w.cell? ⟨z,E,none⟩=some (.int .u32 (g E)):=by rw[Y];exact O.cell E (by omega)
 have b6:w.frozen? ⟨z,a,none⟩=false:=O.frozen a
 have b7:w.frozen? ⟨z,E,none⟩=false:=O.frozen E
 have cg:(a:Int)<(len:Int):=by omega
 have cg:(E:Int)<(len:Int):=by omega
 have a7:Hid (partitionEqual ltInt d a b E=partEqLoop ltInt a (a+1) (b-1) (swp d a E)):=Lib.hid rfl
 obtain⟨R,a5⟩:∃R,partitionEqual ltInt d a b E=R:=⟨_,rfl⟩
 rw[a5]
 rw[a5]at a7
 clear N Y a5 bg O bq
 go_enter Tryz.func223,Tryz.ntmps223
 go_upto_region 1 with fail
 go_cut [] (fun O=>aA w O z cap (swp d a E))
 case first=>
  by_cases ce:E=a
  ·subst ce;go_region
   all_goals go_wp2_with fail
   all_goals go_meet
   all_goals exact a8.out 1
  ·have O:¬a=E:=(by omega);go_region
   all_goals go_wp2_with fail
   all_goals go_meet
   all_goals exact a8.out 1
 case rest=>
  clear b4 b5 b6 b7;have bi:=hcut;clear hcut;go_wp2_with fail
  go_loopg [9,10] (b+1) (fun gk a6 ab wr=>∃(i t:Nat) (q:Array Int),t+1-i≤gk∧a6=.int .i64 (i:Int)∧ab=.int .i64 (t:Int)∧a<i∧i≤t+1∧t<b∧q.size=len∧aA w wr z cap q∧R=partEqLoop ltInt a i t q)
  case atStart=>exact⟨a+1,b-1,_,by omega,by go_num,by congr 1;omega,by omega,by omega,by omega,b3.out,bi,a7.out⟩
  case round=>
   obtain⟨i,t,q,ci,rfl,rfl,E,ca,O,bs,hS,be⟩:=hrel;have b1:=Lib.hid hS;have a3:=Lib.hid be;have J:=Lib.hid bs;obtain⟨b8,rfl⟩:∃x:Nat,x=gk:=⟨_,rfl⟩;obtain⟨co,rfl⟩:∃x:World,x=wr:=⟨_,rfl⟩;obtain⟨h,bn⟩:∃h:Nat→Int,∀K,h K=q[K]!:=⟨fun K=>q[K]!,fun _=>rfl⟩;have I:=Lib.hid bn;clear hS be bs bi bn;have E:(i:Int)≤(t:Int)+1:=(by omega);go_wp2_with fail
   go_loopg [9] (t+1) (fun W a6 ad=>∃j:Nat,t+1-j≤W∧a6=.int .i64 (j:Int)∧i≤j∧j≤t+1∧aA w ad z cap q∧scanUp (fun x=>!ltInt q[a]! x) q t j=scanUp (fun x=>!ltInt q[a]! x) q t i)
   case atStart=>exact⟨i,by omega,rfl,by omega,ca,b1.out,rfl⟩
   case round=>
    obtain⟨j,cj,rfl,K,bp,L,E⟩:=hrel;have A:=Lib.hid L;have T:=Lib.hid E;clear L E;have av:wr.cell? ⟨z,a,none⟩=some (.int .u32 (h a)):=(by rw[I.out];exact A.out.row.cell a (by rw[J.out];omega));by_cases br:j≤t
    ·have a':wr.cell? ⟨z,j,none⟩=some (.int .u32 (h j)):=(by rw[I.out];exact A.out.row.cell j (by rw[J.out];omega));have E:(j:Int)<(len:Int):=(by omega);have bt:(j:Int)≤(t:Int):=(by omega);rcases dV (ltInt (h a) (h j))with X|X
     ·have a2:Hid (scanUp (fun x=>!ltInt q[a]! x) q t (j+1)=scanUp (fun x=>!ltInt q[a]! x) q t i):=Lib.hid (by rw[←T.out];exact ou _ q t j br (by rw[←I.out,←I.out,X];rfl));go_wp2_with fail
      go_quiet ((go_at_call 222;exact Calls.quiet_of_same (aO _ _ _)))
      go_wp2
      go_roundg (gk-1)
      case rel=>exact⟨j+1,by omega,by go_num,by omega,by omega,A.out.drewN nq,a2.out⟩
      case measure=>omega
     ·have am:Hid (scanUp (fun x=>!ltInt q[a]! x) q t i=j):=Lib.hid (by rw[←T.out];exact je _ q t j (Or.inr (by rw[←I.out,←I.out,X];rfl)));go_wp2_with fail
      go_quiet ((go_at_call 222;exact Calls.quiet_of_same (aO _ _ _)))
      go_wp2
      have a4:=Lib.hid (A.out.drewN nq);have bx:=Lib.hid X;clear av a' A T X;go_loopg [10] (t+1) (fun W ab ad=>∃s:Nat,s≤W∧ab=.int .i64 (s:Int)∧s≤t∧j≤s+1∧aA w ad z cap q∧scanDown (fun x=>ltInt q[a]! x) q j s=scanDown (fun x=>ltInt q[a]! x) q j t)
      case atStart=>exact⟨t,by omega,rfl,by omega,bp,a4.out,rfl⟩
      case round=>
       obtain⟨s,b9,rfl,cd,cb,L,Z⟩:=hrel;have A:=Lib.hid L;have U:=Lib.hid Z;clear L Z;have av:wr.cell? ⟨z,a,none⟩=some (.int .u32 (h a)):=(by rw[I.out];exact A.out.row.cell a (by rw[J.out];omega));by_cases a1:j≤s
       ·have E:wr.cell? ⟨z,s,none⟩=some (.int .u32 (h s)):=(by rw[I.out];exact A.out.row.cell s (by rw[J.out];omega));have E:(s:Int)<(len:Int):=(by omega);have bv:(j:Int)≤(s:Int):=(by omega);rcases dV (ltInt (h a) (h s))with aw|aw
        ·have S:Hid (scanDown (fun x=>ltInt q[a]! x) q j t=s):=Lib.hid (by rw[←U.out];exact gn _ q j s (Or.inr (by rw[←I.out,←I.out];exact aw)));have cf:¬s=j:=fun e=>(by have bb:=bx.out;rw[←e,aw]at bb;cases bb);have E:¬j=s:=fun e=>cf e.symm;have a':wr.cell? ⟨z,j,none⟩=some (.int .u32 (h j)):=(by rw[I.out];exact A.out.row.cell j (by rw[J.out];omega));have E:wr.frozen? ⟨z,j,none⟩=false:=A.out.row.frozen j;have E:wr.frozen? ⟨z,s,none⟩=false:=A.out.row.frozen s;have bw:(j:Int)<(len:Int):=(by omega);have E:¬(s:Int)<(j:Int):=(by omega);have N:=fun n=>A.out.ca n j s (by rw[J.out];omega) (by rw[J.out];omega);rw[←I.out,←I.out]at N;have b2:=Lib.hid N;have b0:Hid (R=partEqLoop ltInt a (j+1) (s-1) (swp q j s)):=Lib.hid (by rw[yG a i t q am.out S.out (by omega)];exact a3.out);clear N;go_wp2_with fail
         go_quiet ((go_at_call 222;exact Calls.quiet_of_same (aO _ _ _)))
         go_wp2
         go_region
         all_goals go_wp2
         go_roundg (b8-1)
         case rel=>exact⟨j+1,s-1,_,by omega,by go_num,by congr 1;omega,by omega,by omega,by omega,by rw[size_swp];exact J.out,b2.out (nq+1),b0.out⟩
         case measure=>omega
        ·have a2:Hid (scanDown (fun x=>ltInt q[a]! x) q j (s-1)=scanDown (fun x=>ltInt q[a]! x) q j t):=Lib.hid (by rw[←U.out];exact mh _ q j s a1 (by omega) (by rw[←I.out,←I.out];exact aw));go_wp2_with fail
         go_quiet ((go_at_call 222;exact Calls.quiet_of_same (aO _ _ _)))
         go_wp2
         go_roundg (gk-1)
         case rel=>exact⟨s-1,by omega,by congr 1;omega,by omega,by omega,A.out.drewN nq,a2.out⟩
         case measure=>omega
       ·have S:Hid (scanDown (fun x=>ltInt q[a]! x) q j t=s):=Lib.hid (by rw[←U.out];exact gn _ q j s (Or.inl a1));have bv:decide ((j:Int)≤(s:Int))=false:=decide_eq_false (by omega);have bw:(s:Int)<(j:Int):=(by omega);go_wp2_with fail
        go_quiet ((go_at_call 222;exact Calls.quiet_of_same (aO _ _ _)))
        go_wp2
        go_ret
        have e:=qD a i t q am.out S.out (by omega);rw[a3.out,e];exact⟨rfl,A.out.drewN _⟩
    ·have am:Hid (scanUp (fun x=>!ltInt q[a]! x) q t i=j):=Lib.hid (by rw[←T.out];exact je _ q t j (Or.inl br));have bt:decide ((j:Int)≤(t:Int))=false:=decide_eq_false (by omega);go_wp2_with fail
     go_quiet ((go_at_call 222;exact Calls.quiet_of_same (aO _ _ _)))
     go_wp2
     have a4:=Lib.hid (A.out.drewN nq);clear av A T bt;go_loopg [10] (t+1) (fun W ab ad=>∃s:Nat,s≤W∧ab=.int .i64 (s:Int)∧s≤t∧j≤s+1∧aA w ad z cap q∧scanDown (fun x=>ltInt q[a]! x) q j s=scanDown (fun x=>ltInt q[a]! x) q j t)
     case atStart=>exact⟨t,by omega,rfl,by omega,bp,a4.out,rfl⟩
     case round=>
      obtain⟨s,b9,rfl,cd,cb,L,Z⟩:=hrel;have A:=Lib.hid L;have U:=Lib.hid Z;clear L Z;have av:wr.cell? ⟨z,a,none⟩=some (.int .u32 (h a)):=(by rw[I.out];exact A.out.row.cell a (by rw[J.out];omega));by_cases a1:j≤s;·exfalso;omega
      ·have S:Hid (scanDown (fun x=>ltInt q[a]! x) q j t=s):=Lib.hid (by rw[←U.out];exact gn _ q j s (Or.inl a1));have bv:decide ((j:Int)≤(s:Int))=false:=decide_eq_false (by omega);have bw:(s:Int)<(j:Int):=(by omega);go_wp2_with fail
       go_quiet ((go_at_call 222;exact Calls.quiet_of_same (aO _ _ _)))
       go_wp2
       go_ret
       have e:=qD a i t q am.out S.out (by omega);rw[a3.out,e];exact⟨rfl,A.out.drewN _⟩

def m9 (a:Nat)(r:Nat×Array Int):Nat×Bool×Array Int:=(r.1,false,swp r.2 r.1 a)

theorem qC (d:Array Int)(a b z:Nat){j:Array Int}{i t s q:Nat}(A:j=swp d a z)(hi:i=a+1)(I:t=b-1)(E:scanUp (fun x=>ltInt x j[a]!) j t i=s)(J:scanDown (fun x=>!ltInt x j[a]!) j s t=q)(h:q<s) :
  partition ltInt d a b z=(q,true,swp j q a):=by
 subst A;subst hi;subst I;subst E;subst J
 unfold partition
 simp only[]
 rw[if_pos h]

theorem yy (d:Array Int)(a b z:Nat){j:Array Int}{i t q s:Nat}(A:j=swp d a z)(hi:i=a+1)(I:t=b-1)(E:scanUp (fun x=>ltInt x j[a]!) j t i=q)(J:scanDown (fun x=>!ltInt x j[a]!) j q t=s)(h:¬q > s) :
  partition ltInt d a b z=m9 a (partLoop ltInt a (q+1) (s-1) (swp j q s)):=by
 subst A;subst hi;subst I;subst E;subst J
 unfold partition
 simp only[]
 rw[if_neg h]
 rfl

theorem qF (a i s:Nat)(j:Array Int){q t:Nat}(z:scanUp (fun x=>ltInt x j[a]!) j s i=q)(A:scanDown (fun x=>!ltInt x j[a]!) j q s=t)(h:t<q):partLoop ltInt a i s j=(t,j):=by
 subst z;subst A;rw[partLoop_eq,if_pos h]

theorem yP (a i s:Nat)(j:Array Int){q t:Nat}(z:scanUp (fun x=>ltInt x j[a]!) j s i=q)(A:scanDown (fun x=>!ltInt x j[a]!) j q s=t)(h:¬q > t):partLoop ltInt a (q+1) (t-1) (swp j q t)=partLoop ltInt a i s j:=by
 subst z;subst A;rw[partLoop_eq ltInt a i s,if_neg h]

theorem yw (E cap len a b K:Nat)(d:Array Int)(w:World)(a':bh w E cap d)(cx:d.size=len)(dj:a≤K)(dr:K<b)(dk:b≤len)(ds:len≤1048576) :
  Calls Tryz.prog 224 #[.slice (some ⟨E,0,none⟩) len cap,.int .i64 a,.int .i64 b,.int .i64 K] w fun e w'=>
   e=.returned (.tuple #[.int .i64 (partition ltInt d a b K).1,.bool (partition ltInt d a b K).2.1])∧aA w w' E cap (partition ltInt d a b K).2.2:=by
 have cn:=aA.self a'
 have J:=fun n=>cn.ca n a K (by omega) (by omega)
 obtain⟨g,bq⟩:∃g:Nat→Int,∀N,g N=d[N]!:=⟨fun N=>d[N]!,fun _=>rfl⟩
 rw[←bq,←bq]at J
 have ch:=Lib.hid J
 have c5:w.cell? ⟨E,a,none⟩=some (.int .u32 (g a)):=by rw[bq];exact a'.cell a (by omega)
 have c6:w.cell? ⟨E,K,none⟩=some (.int .u32 (g K)):=by rw[bq];exact a'.cell K (by omega)
 have c7:w.frozen? ⟨E,a,none⟩=false:=a'.frozen a
 have c8:w.frozen? ⟨E,K,none⟩=false:=a'.frozen K
 have dj:(a:Int)<(len:Int):=by omega
 have dj:(K:Int)<(len:Int):=by omega
 obtain⟨s,cb⟩:∃x,x=swp d a K:=⟨_,rfl⟩
 obtain⟨i,hi⟩:∃x,x=a+1:=⟨_,rfl⟩
 obtain⟨t,cq⟩:∃x,x=b-1:=⟨_,rfl⟩
 have a5:=Lib.hid cb
 have bi:=Lib.hid hi
 have bn:=Lib.hid cq
 have I:Hid (s.size=len):=Lib.hid (by rw[cb,size_swp];exact cx)
 have co:a<i:=by omega
 have b3:i≤t+1:=by omega
 have cv:t<b:=by omega
 obtain⟨R,ca⟩:∃R,partition ltInt d a b K=R:=⟨_,rfl⟩
 rw[ca]
 have bw:=Lib.hid ca
 clear J bq ca cn a' cx cb hi cq
 go_enter Tryz.func224,Tryz.ntmps224
 go_upto_region 1 with fail
 go_cut [] (fun a'=>aA w a' E cap s)
 case first=>
  by_cases da:K=a
  ·subst da;go_region
   all_goals go_wp2_with fail
   all_goals go_meet
   all_goals(rw[a5.out];exact ch.out 1)
  ·have a':¬a=K:=(by omega);go_region
   all_goals go_wp2_with fail
   all_goals go_meet
   all_goals(rw[a5.out];exact ch.out 1)
 case rest=>
  clear c5 c6 c7 c8;have bx:=Lib.hid hcut;clear hcut;obtain⟨h,br⟩:∃h:Nat→Int,∀N,h N=s[N]!:=⟨fun N=>s[N]!,fun _=>rfl⟩;have A:=Lib.hid br;clear br;go_wp2_with fail
  rw[show(b:Int)-1=(t:Int) by have:=bn.out;omega,show(a:Int)+1=(i:Int) by have:=bi.out;omega];go_loopg [10] (t+1) (fun X bt ad=>∃q:Nat,t+1-q≤X∧bt=.int .i64 (q:Int)∧i≤q∧q≤t+1∧aA w ad E cap s∧scanUp (fun x=>ltInt x s[a]!) s t q=scanUp (fun x=>ltInt x s[a]!) s t i)
  case atStart=>exact⟨i,by omega,rfl,by omega,b3,bx.out,rfl⟩
  case round=>
   obtain⟨q,c',rfl,cp,a7,L,bs⟩:=hrel;have z:=Lib.hid L;have T:=Lib.hid bs;clear L bs;have av:wr.cell? ⟨E,a,none⟩=some (.int .u32 (h a)):=(by rw[A.out];exact z.out.row.cell a (by rw[I.out];omega));by_cases a8:q≤t
   ·have a6:wr.cell? ⟨E,q,none⟩=some (.int .u32 (h q)):=(by rw[A.out];exact z.out.row.cell q (by rw[I.out];omega));have c2:(q:Int)<(len:Int):=(by omega);have bb:(q:Int)≤(t:Int):=(by omega);rcases dV (ltInt (h q) (h a))with Y|Y
    ·have am:Hid (scanUp (fun x=>ltInt x s[a]!) s t i=q):=Lib.hid (by rw[←T.out];exact je _ s t q (Or.inr (by rw[←A.out,←A.out];exact Y)));go_wp2_with fail
     go_quiet ((go_at_call 222;exact Calls.quiet_of_same (aO _ _ _)))
     go_wp2
     have a3:=Lib.hid (z.out.drewN nq);have bv:=Lib.hid Y;clear av a6 z T Y;go_loopg [11] (t+1) (fun X a2 ad=>∃j:Nat,j≤X∧a2=.int .i64 (j:Int)∧j≤t∧q≤j+1∧aA w ad E cap s∧scanDown (fun x=>!ltInt x s[a]!) s q j=scanDown (fun x=>!ltInt x s[a]!) s q t)
     case atStart=>exact⟨t,by omega,rfl,by omega,a7,a3.out,rfl⟩
     case round=>
      obtain⟨j,cd,rfl,b5,b4,L,ab⟩:=hrel;have z:=Lib.hid L;have S:=Lib.hid ab;clear L ab;have av:wr.cell? ⟨E,a,none⟩=some (.int .u32 (h a)):=(by rw[A.out];exact z.out.row.cell a (by rw[I.out];omega));have b7:(j:Int)<(len:Int):=(by omega);have b1:wr.cell? ⟨E,j,none⟩=some (.int .u32 (h j)):=(by rw[A.out];exact z.out.row.cell j (by rw[I.out];omega));have b2:wr.frozen? ⟨E,j,none⟩=false:=z.out.row.frozen j;by_cases a1:q≤j
      ·have be:(q:Int)≤(j:Int):=(by omega);rcases dV (ltInt (h j) (h a))with aw|aw
       ·have a4:Hid (scanDown (fun x=>!ltInt x s[a]!) s q (j-1)=scanDown (fun x=>!ltInt x s[a]!) s q t):=Lib.hid (by rw[←S.out];exact mh _ s q j a1 (by omega) (by rw[←A.out,←A.out,aw];rfl));go_wp2_with fail
        go_quiet ((go_at_call 222;exact Calls.quiet_of_same (aO _ _ _)))
        go_wp2
        go_roundg (gk-1)
        case rel=>exact⟨j-1,by omega,by congr 1;omega,by omega,by omega,z.out.drewN nq,a4.out⟩
        case measure=>omega
       ·have O:Hid (scanDown (fun x=>!ltInt x s[a]!) s q t=j):=Lib.hid (by rw[←S.out];exact gn _ s q j (Or.inr (by rw[←A.out,←A.out,aw];rfl)));have b6:¬j=q:=fun e=>(by have bp:=bv.out;rw[←e,aw]at bp;cases bp);have cD:¬q=j:=fun e=>b6 e.symm;have a6:wr.cell? ⟨E,q,none⟩=some (.int .u32 (h q)):=(by rw[A.out];exact z.out.row.cell q (by rw[I.out];omega));have cj:wr.frozen? ⟨E,q,none⟩=false:=z.out.row.frozen q;have bg:(q:Int)<(len:Int):=(by omega);have c3:¬(j:Int)<(q:Int):=(by omega);have c4:¬j<q:=(by omega);have J:=fun n=>z.out.ca n q j (by rw[I.out];omega) (by rw[I.out];omega);rw[←A.out,←A.out]at J;have b0:=Lib.hid J;clear J;go_wp2_with fail
        go_quiet ((go_at_call 222;exact Calls.quiet_of_same (aO _ _ _)))
        go_wp2
        go_region
        all_goals go_wp2_with fail
        have cf:Hid (R=m9 a (partLoop ltInt a (q+1) (j-1) (swp s q j))):=Lib.hid (by rw[←bw.out];exact yy d a b K a5.out bi.out bn.out am.out O.out (by omega));have ci:=Lib.hid (b0.out (nq+1));have cg:Hid ((swp s q j).size=len):=Lib.hid (by rw[size_swp];exact I.out);have cS:a<q+1:=(by omega);have c0:q+1≤j-1+1:=(by omega);have c1:j-1<b:=(by omega);have db:0<j:=(by omega);clear av b1 b2 a6 cj;go_loopg [10,11] (b+1) (fun gk bt a2 wr=>∃(i t:Nat) (s:Array Int),t+1-i≤gk∧bt=.int .i64 (i:Int)∧a2=.int .i64 (t:Int)∧a<i∧i≤t+1∧t<b∧s.size=len∧aA w wr E cap s∧R=m9 a (partLoop ltInt a i t s))
        case atStart=>exact⟨q+1,j-1,_,by omega,by go_num,by congr 1;omega,cS,c0,c1,cg.out,ci.out,cf.out⟩
        case round=>
         clear ci cg cf b0 O am I A bx z a3 S bv a5 bi bn bw b6 cD bg c3 c4 b7 be bb c2 cS c0 c1 db aw a8 a1 b4 b5 a7 cp b3 co cv;obtain⟨i,t,s,dl,rfl,rfl,co,b3,cv,cy,hS,cl⟩:=hrel;have bx:=Lib.hid hS;have b8:=Lib.hid cl;have I:=Lib.hid cy;obtain⟨c9,rfl⟩:∃x:Nat,x=gk:=⟨_,rfl⟩;obtain⟨dB,rfl⟩:∃x:World,x=wr:=⟨_,rfl⟩;obtain⟨h,br⟩:∃h:Nat→Int,∀N,h N=s[N]!:=⟨fun N=>s[N]!,fun _=>rfl⟩;have A:=Lib.hid br;clear hS cl cy br;go_wp2_with fail
         go_loopg [10] (t+1) (fun X bt ad=>∃q:Nat,t+1-q≤X∧bt=.int .i64 (q:Int)∧i≤q∧q≤t+1∧aA w ad E cap s∧scanUp (fun x=>ltInt x s[a]!) s t q=scanUp (fun x=>ltInt x s[a]!) s t i)
         case atStart=>exact⟨i,by omega,rfl,by omega,b3,bx.out,rfl⟩
         case round=>
          obtain⟨q,c',rfl,cp,a7,L,bs⟩:=hrel;have z:=Lib.hid L;have T:=Lib.hid bs;clear L bs;have av:wr.cell? ⟨E,a,none⟩=some (.int .u32 (h a)):=(by rw[A.out];exact z.out.row.cell a (by rw[I.out];omega));by_cases a8:q≤t
          ·have a6:wr.cell? ⟨E,q,none⟩=some (.int .u32 (h q)):=(by rw[A.out];exact z.out.row.cell q (by rw[I.out];omega));have c2:(q:Int)<(len:Int):=(by omega);have bb:(q:Int)≤(t:Int):=(by omega);rcases dV (ltInt (h q) (h a))with Y|Y
           ·have am:Hid (scanUp (fun x=>ltInt x s[a]!) s t i=q):=Lib.hid (by rw[←T.out];exact je _ s t q (Or.inr (by rw[←A.out,←A.out];exact Y)));go_wp2_with fail
            go_quiet ((go_at_call 222;exact Calls.quiet_of_same (aO _ _ _)))
            go_wp2
            have a3:=Lib.hid (z.out.drewN nq);have bv:=Lib.hid Y;clear av a6 z T Y;go_loopg [11] (t+1) (fun X a2 ad=>∃j:Nat,j≤X∧a2=.int .i64 (j:Int)∧j≤t∧q≤j+1∧aA w ad E cap s∧scanDown (fun x=>!ltInt x s[a]!) s q j=scanDown (fun x=>!ltInt x s[a]!) s q t)
            case atStart=>exact⟨t,by omega,rfl,by omega,a7,a3.out,rfl⟩
            case round=>
             obtain⟨j,cd,rfl,b5,b4,L,ab⟩:=hrel;have z:=Lib.hid L;have S:=Lib.hid ab;clear L ab;have av:wr.cell? ⟨E,a,none⟩=some (.int .u32 (h a)):=(by rw[A.out];exact z.out.row.cell a (by rw[I.out];omega));have b7:(j:Int)<(len:Int):=(by omega);have b1:wr.cell? ⟨E,j,none⟩=some (.int .u32 (h j)):=(by rw[A.out];exact z.out.row.cell j (by rw[I.out];omega));have b2:wr.frozen? ⟨E,j,none⟩=false:=z.out.row.frozen j;by_cases a1:q≤j
             ·have be:(q:Int)≤(j:Int):=(by omega);rcases dV (ltInt (h j) (h a))with aw|aw
              ·have a4:Hid (scanDown (fun x=>!ltInt x s[a]!) s q (j-1)=scanDown (fun x=>!ltInt x s[a]!) s q t):=Lib.hid (by rw[←S.out];exact mh _ s q j a1 (by omega) (by rw[←A.out,←A.out,aw];rfl));go_wp2_with fail
               go_quiet ((go_at_call 222;exact Calls.quiet_of_same (aO _ _ _)))
               go_wp2
               go_roundg (gk-1)
               case rel=>exact⟨j-1,by omega,by congr 1;omega,by omega,by omega,z.out.drewN nq,a4.out⟩
               case measure=>omega
              ·have O:Hid (scanDown (fun x=>!ltInt x s[a]!) s q t=j):=Lib.hid (by rw[←S.out];exact gn _ s q j (Or.inr (by rw[←A.out,←A.out,aw];rfl)));have b6:¬j=q:=fun e=>(by have bp:=bv.out;rw[←e,aw]at bp;cases bp);have cD:¬q=j:=fun e=>b6 e.symm;have a6:wr.cell? ⟨E,q,none⟩=some (.int .u32 (h q)):=(by rw[A.out];exact z.out.row.cell q (by rw[I.out];omega));have cj:wr.frozen? ⟨E,q,none⟩=false:=z.out.row.frozen q;have bg:(q:Int)<(len:Int):=(by omega);have c3:¬(j:Int)<(q:Int):=(by omega);have c4:¬j<q:=(by omega);have J:=fun n=>z.out.ca n q j (by rw[I.out];omega) (by rw[I.out];omega);rw[←A.out,←A.out]at J;have b0:=Lib.hid J;clear J;go_wp2_with fail
               go_quiet ((go_at_call 222;exact Calls.quiet_of_same (aO _ _ _)))
               go_wp2
               go_region
               all_goals go_wp2_with fail
               go_roundg (c9-1)
               case rel=>exact⟨q+1,j-1,_,by omega,by go_num,by congr 1;omega,by omega,by omega,by omega,by rw[size_swp];exact I.out,b0.out (nq+1),by rw[yP a i t s am.out O.out (by omega)];exact b8.out⟩
               case measure=>omega
             ·skip
              have O:Hid (scanDown (fun x=>!ltInt x s[a]!) s q t=j):=Lib.hid (by rw[←S.out];exact gn _ s q j (Or.inl a1));have be:decide ((q:Int)≤(j:Int))=false:=decide_eq_false (by omega);have bg:(j:Int)<(q:Int):=(by omega);have b9:wr.frozen? ⟨E,a,none⟩=false:=z.out.row.frozen a;have W:Hid (R=(j,false,swp s j a)):=Lib.hid (by rw[b8.out,qF a i t s am.out O.out (by omega)];rfl)

              have J:=fun n=>z.out.ca n j a (by rw[I.out];omega) (by rw[I.out];omega);rw[←A.out,←A.out]at J;have U:=Lib.hid J;clear J;by_cases Z:j=a
              ·subst Z;go_wp2_with fail
               go_quiet ((go_at_call 222;exact Calls.quiet_of_same (aO _ _ _)))
               go_wp2
               go_region
               all_goals go_wp2
               all_goals refine bodyPost_ret (results_tmp2 rfl _ _ _) rfl ?_
               all_goals(rw[W.out];exact⟨rfl,U.out (nq+1)⟩)
              ·have ce:¬a=j:=fun e=>Z e.symm;go_wp2_with fail
               go_quiet ((go_at_call 222;exact Calls.quiet_of_same (aO _ _ _)))
               go_wp2
               go_region
               all_goals go_wp2
               all_goals refine bodyPost_ret (results_tmp2 rfl _ _ _) rfl ?_
               all_goals(rw[W.out];exact⟨rfl,U.out (nq+1)⟩)
           ·have a4:Hid (scanUp (fun x=>ltInt x s[a]!) s t (q+1)=scanUp (fun x=>ltInt x s[a]!) s t i):=Lib.hid (by rw[←T.out];exact ou _ s t q a8 (by rw[←A.out,←A.out];exact Y));go_wp2_with fail
            go_quiet ((go_at_call 222;exact Calls.quiet_of_same (aO _ _ _)))
            go_wp2
            go_roundg (gk-1)
            case rel=>exact⟨q+1,by omega,by go_num,by omega,by omega,z.out.drewN nq,a4.out⟩
            case measure=>omega
          ·have am:Hid (scanUp (fun x=>ltInt x s[a]!) s t i=q):=Lib.hid (by rw[←T.out];exact je _ s t q (Or.inl a8));have bb:decide ((q:Int)≤(t:Int))=false:=decide_eq_false (by omega);go_wp2_with fail
           go_quiet ((go_at_call 222;exact Calls.quiet_of_same (aO _ _ _)))
           go_wp2
           have a3:=Lib.hid (z.out.drewN nq);clear av z T bb;go_loopg [11] (t+1) (fun X a2 ad=>∃j:Nat,j≤X∧a2=.int .i64 (j:Int)∧j≤t∧q≤j+1∧aA w ad E cap s∧scanDown (fun x=>!ltInt x s[a]!) s q j=scanDown (fun x=>!ltInt x s[a]!) s q t)
           case atStart=>exact⟨t,by omega,rfl,by omega,a7,a3.out,rfl⟩
           case round=>
            obtain⟨j,cd,rfl,b5,b4,L,ab⟩:=hrel;have z:=Lib.hid L;have S:=Lib.hid ab;clear L ab;have av:wr.cell? ⟨E,a,none⟩=some (.int .u32 (h a)):=(by rw[A.out];exact z.out.row.cell a (by rw[I.out];omega));have b7:(j:Int)<(len:Int):=(by omega);have b1:wr.cell? ⟨E,j,none⟩=some (.int .u32 (h j)):=(by rw[A.out];exact z.out.row.cell j (by rw[I.out];omega));have b2:wr.frozen? ⟨E,j,none⟩=false:=z.out.row.frozen j;by_cases a1:q≤j;·exfalso;omega
            ·skip
             have O:Hid (scanDown (fun x=>!ltInt x s[a]!) s q t=j):=Lib.hid (by rw[←S.out];exact gn _ s q j (Or.inl a1));have be:decide ((q:Int)≤(j:Int))=false:=decide_eq_false (by omega);have bg:(j:Int)<(q:Int):=(by omega);have b9:wr.frozen? ⟨E,a,none⟩=false:=z.out.row.frozen a;have W:Hid (R=(j,false,swp s j a)):=Lib.hid (by rw[b8.out,qF a i t s am.out O.out (by omega)];rfl)

             have J:=fun n=>z.out.ca n j a (by rw[I.out];omega) (by rw[I.out];omega);rw[←A.out,←A.out]at J;have U:=Lib.hid J;clear J;by_cases Z:j=a
             ·subst Z;go_wp2_with fail
              go_quiet ((go_at_call 222;exact Calls.quiet_of_same (aO _ _ _)))
              go_wp2
              go_region
              all_goals go_wp2
              all_goals refine bodyPost_ret (results_tmp2 rfl _ _ _) rfl ?_
              all_goals(rw[W.out];exact⟨rfl,U.out (nq+1)⟩)
             ·have ce:¬a=j:=fun e=>Z e.symm;go_wp2_with fail
              go_quiet ((go_at_call 222;exact Calls.quiet_of_same (aO _ _ _)))
              go_wp2
              go_region
              all_goals go_wp2
              all_goals refine bodyPost_ret (results_tmp2 rfl _ _ _) rfl ?_
              all_goals(rw[W.out];exact⟨rfl,U.out (nq+1)⟩)
      ·skip
       have O:Hid (scanDown (fun x=>!ltInt x s[a]!) s q t=j):=Lib.hid (by rw[←S.out];exact gn _ s q j (Or.inl a1));have be:decide ((q:Int)≤(j:Int))=false:=decide_eq_false (by omega);have bg:(j:Int)<(q:Int):=(by omega);have b9:wr.frozen? ⟨E,a,none⟩=false:=z.out.row.frozen a;have W:Hid (R=(j,true,swp s j a)):=Lib.hid (by rw[←bw.out];exact qC d a b K a5.out bi.out bn.out am.out O.out (by omega));have J:=fun n=>z.out.ca n j a (by rw[I.out];omega) (by rw[I.out];omega);rw[←A.out,←A.out]at J;have U:=Lib.hid J;clear J;by_cases Z:j=a
       ·subst Z;go_wp2_with fail
        go_quiet ((go_at_call 222;exact Calls.quiet_of_same (aO _ _ _)))
        go_wp2
        go_region
        all_goals go_wp2
        all_goals refine bodyPost_ret (results_tmp2 rfl _ _ _) rfl ?_
        all_goals(rw[W.out];exact⟨rfl,U.out (nq+1)⟩)
       ·have ce:¬a=j:=fun e=>Z e.symm;go_wp2_with fail
        go_quiet ((go_at_call 222;exact Calls.quiet_of_same (aO _ _ _)))
        go_wp2
        go_region
        all_goals go_wp2
        all_goals refine bodyPost_ret (results_tmp2 rfl _ _ _) rfl ?_
        all_goals(rw[W.out];exact⟨rfl,U.out (nq+1)⟩)
    ·have a4:Hid (scanUp (fun x=>ltInt x s[a]!) s t (q+1)=scanUp (fun x=>ltInt x s[a]!) s t i):=Lib.hid (by rw[←T.out];exact ou _ s t q a8 (by rw[←A.out,←A.out];exact Y));go_wp2_with fail
     go_quiet ((go_at_call 222;exact Calls.quiet_of_same (aO _ _ _)))
     go_wp2
     go_roundg (gk-1)
     case rel=>exact⟨q+1,by omega,by go_num,by omega,by omega,z.out.drewN nq,a4.out⟩
     case measure=>omega
   ·have am:Hid (scanUp (fun x=>ltInt x s[a]!) s t i=q):=Lib.hid (by rw[←T.out];exact je _ s t q (Or.inl a8));have bb:decide ((q:Int)≤(t:Int))=false:=decide_eq_false (by omega);go_wp2_with fail
    go_quiet ((go_at_call 222;exact Calls.quiet_of_same (aO _ _ _)))
    go_wp2
    have a3:=Lib.hid (z.out.drewN nq);clear av z T bb;go_loopg [11] (t+1) (fun X a2 ad=>∃j:Nat,j≤X∧a2=.int .i64 (j:Int)∧j≤t∧q≤j+1∧aA w ad E cap s∧scanDown (fun x=>!ltInt x s[a]!) s q j=scanDown (fun x=>!ltInt x s[a]!) s q t)
    case atStart=>exact⟨t,by omega,rfl,by omega,a7,a3.out,rfl⟩
    case round=>
     obtain⟨j,cd,rfl,b5,b4,L,ab⟩:=hrel;have z:=Lib.hid L;have S:=Lib.hid ab;clear L ab;have av:wr.cell? ⟨E,a,none⟩=some (.int .u32 (h a)):=(by rw[A.out];exact z.out.row.cell a (by rw[I.out];omega));have b7:(j:Int)<(len:Int):=(by omega);have b1:wr.cell? ⟨E,j,none⟩=some (.int .u32 (h j)):=(by rw[A.out];exact z.out.row.cell j (by rw[I.out];omega));have b2:wr.frozen? ⟨E,j,none⟩=false:=z.out.row.frozen j;by_cases a1:q≤j;·exfalso;omega
     ·skip
      have O:Hid (scanDown (fun x=>!ltInt x s[a]!) s q t=j):=Lib.hid (by rw[←S.out];exact gn _ s q j (Or.inl a1));have be:decide ((q:Int)≤(j:Int))=false:=decide_eq_false (by omega);have bg:(j:Int)<(q:Int):=(by omega);have b9:wr.frozen? ⟨E,a,none⟩=false:=z.out.row.frozen a;have W:Hid (R=(j,true,swp s j a)):=Lib.hid (by rw[←bw.out];exact qC d a b K a5.out bi.out bn.out am.out O.out (by omega));have J:=fun n=>z.out.ca n j a (by rw[I.out];omega) (by rw[I.out];omega);rw[←A.out,←A.out]at J;have U:=Lib.hid J;clear J;by_cases Z:j=a
      ·subst Z;go_wp2_with fail
       go_quiet ((go_at_call 222;exact Calls.quiet_of_same (aO _ _ _)))
       go_wp2
       go_region
       all_goals go_wp2
       all_goals refine bodyPost_ret (results_tmp2 rfl _ _ _) rfl ?_
       all_goals(rw[W.out];exact⟨rfl,U.out (nq+1)⟩)
      ·have ce:¬a=j:=fun e=>Z e.symm;go_wp2_with fail
       go_quiet ((go_at_call 222;exact Calls.quiet_of_same (aO _ _ _)))
       go_wp2
       go_region
       all_goals go_wp2
       all_goals refine bodyPost_ret (results_tmp2 rfl _ _ _) rfl ?_
       all_goals(rw[W.out];exact⟨rfl,U.out (nq+1)⟩)

end Go.Proofs.YtafkamlhimkbmaaGreat
