/-
  Put of a new key into an index.
-/
import Derived.Test.YtafkamlhimkbmaaGreatPIndexA
namespace Go.Proofs.YtafkamlhimkbmaaGreat
set_option maxRecDepth 1000000
set_option maxHeartbeats 8000000
set_option linter.unusedSimpArgs false
set_option linter.unusedVariables false
open Go.RowKit
structure gE (w:World)(ib tb cap:Nat)(ts:aK)(n:Int)(k:Nat)(r:Rec)(id:Int)(W:World):Prop where
 heap:W.heap[ib]?=some (.cells #[.slice (some ⟨tb,0,none⟩) ts.length cap,.int .i64 (n+1)] 255 (0,0))
 row:W.ownsRow 0 274 9 (.slice (some ⟨tb,0,none⟩) ts.length cap) ts.length ((ts.set k (some (r,id))).flatMap cu)
 upd:af (fun x=>x=ib∨x=tb) w W
theorem gE.U {w:World}{ib z cap:Nat}{ts:aK}{n:Int}{k:Nat}{r:Rec}{id:Int}{t u:World}(h:gE w ib z cap ts n k r id t)(s:ae t u):gE w ib z cap ts n k r id u:=
 ⟨s.heap h.heap,s.ca h.row,h.upd.bd (s.upd _)⟩
theorem gE.hN {w w1:World}{ib s cap:Nat}{ts:aK}{n:Int}(u:w.heap[ib]?=some (.cells #[.slice (some ⟨s,0,none⟩) ts.length cap,.int .i64 n] 255 (0,0)))
  (z:w.ownsRow 0 274 9 (.slice (some ⟨s,0,none⟩) ts.length cap) ts.length (ts.flatMap cu)) (t:ae w w1) {k:Nat} (J:k<ts.length) (r:Rec) (id:Int) :
  gE w ib s cap ts n k r id ((fw w1 s (k*9) (cu (some (r,id)))).setCell ⟨ib,1,none⟩ (.int .i64 (n+1))):=by
 obtain⟨Q,I⟩:=cU z (k:=s) rfl
 have N:s≠ib:=eU I u (by decide)
 have D:=mH s (cu (some (r,id))) (k*9) w1
 have E:=mG cu gq rfl (t.ca z) k J (some (r,id))
 have z:=(D.block ib (dz (bu u) t.size) (fun e=>N e.symm)).trans (t.heap u)
 refine⟨heap_setCell_same _ ib 1 _ _ _ z,?_,?_⟩
 ·exact af.ca (F:=fun x=>x=ib) (af.setCell (F:=fun x=>x=ib) (p:=⟨ib,1,none⟩) (af.refl _ _) (Or.inl rfl) _) (fun x O=>by simp[Value.ownBlock]at O;omega) E
 ·exact af.setCell (F:=fun x=>x=ib∨x=s) (p:=⟨ib,1,none⟩) ((t.upd _).bd (D.mono (fun x _ e=>.inr e))) (Or.inl (.inl rfl)) _
theorem uy {w:World}{ib s cap:Nat}{ts:aK}{n:Int}(z:w.heap[ib]?=some (.cells #[.slice (some ⟨s,0,none⟩) ts.length cap,.int .i64 n] 255 (0,0)))
  (D:w.ownsRow 0 274 9 (.slice (some ⟨s,0,none⟩) ts.length cap) ts.length (ts.flatMap cu)) (ax:ts.length≤4194304) (ay:0≤n) (a0:n≤1048576) (k:Nat) (am:k<ts.length) (r:Rec) (id:Int) (hs:ts[k]?=some none)
  (R:World→World→Prop) (O:∀t,gE w ib s cap ts n k r id t→2*(n+1)≤(ts.length:Int)→R t t)
  (N:∀t,gE w ib s cap ts n k r id t→(ts.length:Int)<2*(n+1)→Calls Tryz.prog 203 #[.pointer (some ⟨ib,0,none⟩)] t fun e E=>e=.returned (.tuple #[])∧R t E)
  (Q:∀t,ae w t→Calls Tryz.prog 200 #[.pointer (some ⟨ib,0,none⟩),.agg #[.int .u8 r.ad,.int .u8 r.top,.int .u8 r.J,.int .u8 r.lo.tag,.int .u32 r.lo.to,.int .u8 r.hi.tag,.int .u32 r.hi.to]] t fun e E=>e=.returned (.int .i64 (k:Int))∧ae t E) :
  Calls Tryz.prog 138 #[.pointer (some ⟨ib,0,none⟩),.agg #[.int .u8 r.ad,.int .u8 r.top,.int .u8 r.J,.int .u8 r.lo.tag,.int .u32 r.lo.to,.int .u8 r.hi.tag,.int .u32 r.hi.to],.int .u32 id] w fun e E=>e=.returned (.tuple #[.int .u32 0,.bool false])∧∃t,gE w ib s cap ts n k r id t∧R t E:=by
 have X:w.cell? ⟨ib,0,none⟩=some (.slice (some ⟨s,0,none⟩) ts.length cap):=by rw[cell_of_row w ib 0 _ _ _ z];rfl
 have Y:w.cell? ⟨ib,1,none⟩=some (.int .i64 n):=by rw[cell_of_row w ib 1 _ _ _ z];rfl
 have Z:w.frozen? ⟨ib,1,none⟩=false:=frozen_of_row w ib 1 _ _ z
 have al:=bu z
 obtain⟨t,J⟩:=cU D (k:=s) rfl
 have aw:=bu J
 have t:ib≠s:=eU z J (by decide)
 have E:s≠ib:=t.symm
 have ad:∀j,w.frozen? ⟨s,j,none⟩=false:=fun j=>D.frozenAt j
 have t:=fun j (E:j<9)=>(D.cellAt (k*9+j) (by omega)).trans (gK cu 9 gq ts k j none hs E)
 have E:(k:Int)<(ts.length:Int):=by omega
 have U:=aa z
 have W:=aa D
 have u:=aa t
 have H:=aa Q
 have V:=aa O
 have T:=aa N
 clear J z D t hs Q O N
 go_enter Tryz.func138,Tryz.ntmps138
 go_wp2_with (first|(go_at_call 200;refine(H.out _ kp).mono ?_;rintro e w1 ⟨rfl,ab⟩;obtain⟨t,z,D,E,J,N,O⟩:=fZ (w:=w) (w1:=w1) (show ae (w.alloc (.cells #[.int .u8 r.ad,.int .u8 r.top,.int .u8 r.J,.int .u8 r.lo.tag,.int .u32 r.lo.to,.int .u8 r.hi.tag,.int .u32 r.hi.to] 199)) w1 from kp);have t:ae w w1:=(((ae.refl _).alloc _).trans ab);have z:=t.cell X;have z:=t.cell Y;have z:=(Below.frozen (p:=⟨ib,1,none⟩) t al).trans Z;have z:∀j,w1.frozen? ⟨s,j,none⟩=false:=(fun j=>(Below.frozen (p:=⟨s,j,none⟩) t aw).trans (ad j));have z:w1.cell? ⟨s,k*9,none⟩=some (.int .u8 0):=t.cell (u.out 0 (by omega));have z:w1.cell? ⟨s,k*9+1,none⟩=some (.int .u8 0):=t.cell (u.out 1 (by omega));have z:w1.cell? ⟨s,k*9+2,none⟩=some (.int .u8 0):=t.cell (u.out 2 (by omega));have z:w1.cell? ⟨s,k*9+3,none⟩=some (.int .u8 0):=t.cell (u.out 3 (by omega));have z:w1.cell? ⟨s,k*9+4,none⟩=some (.int .u32 0):=t.cell (u.out 4 (by omega));have z:w1.cell? ⟨s,k*9+5,none⟩=some (.int .u8 0):=t.cell (u.out 5 (by omega));have z:w1.cell? ⟨s,k*9+6,none⟩=some (.int .u32 0):=t.cell (u.out 6 (by omega));have z:w1.cell? ⟨s,k*9+7,none⟩=some (.int .u32 0):=t.cell (u.out 7 (by omega));have z:w1.cell? ⟨s,k*9+8,none⟩=some (.bool false):=t.cell (u.out 8 (by omega)))|fail)
 have hm:=gE.hN (n:=n) U.out W.out t am r id
 simp only[fw,cu,gm,List.cons_append,List.nil_append]at hm
 have I:=aa hm
 clear hm
 have t:w.heap.size≠s:=by omega
 have s:w.heap.size≠ib:=by omega
 go_region
 go_wp2
 by_cases ah:(ts.length:Int)<2*(n+1)
 ·go_quiet (fail);go_wp2_with (first|(go_at_call 203;refine(T.out _ (I.out.U kp) ah).mono ?_;rintro e s ⟨rfl,av⟩)|fail)
  go_ret2;exact⟨rfl,_,I.out.U kp,av⟩
 ·go_quiet (fail);go_wp2;go_ret2;exact⟨rfl,_,I.out.U kp,V.out _ (I.out.U kp) (by omega)⟩
theorem ui {F:Nat→Prop}{w:World}{ib:Nat}{ts:aK}{n:Int}(h:di F w ib ts n)(bd:n=(c9 ts:Int))(be:c9 ts<1048576)(r:Rec)(ax:r.ok)(id:Int)(a8:0≤id)(a9:id≤4294967295)(ba:∀s,¬aK.has ts r s) :
  Calls Tryz.prog 138 #[.pointer (some ⟨ib,0,none⟩),.agg #[.int .u8 r.ad,.int .u8 r.top,.int .u8 r.J,.int .u8 r.lo.tag,.int .u32 r.lo.to,.int .u8 r.hi.tag,.int .u32 r.hi.to],.int .u32 id] w fun e E=>e=.returned (.tuple #[.int .u32 0,.bool false])∧af F w E ∧
   ∃ah,di (aH F w E) E ib ah (n+1)∧n+1=(c9 ah:Int)∧∀u s,aK.has ah u s↔(u=r∧s=id)∨aK.has ts u s:=by
 obtain⟨al,W⟩:=lK (H:=bJ) r h.a7
 obtain⟨k,O⟩:∃k:Nat,k=(bJ r ts.length+al)%ts.length:=⟨_,rfl⟩
 have a7:∀t,ae w t→Calls Tryz.prog 200 #[.pointer (some ⟨ib,0,none⟩),.agg #[.int .u8 r.ad,.int .u8 r.top,.int .u8 r.J,.int .u8 r.lo.tag,.int .u32 r.lo.to,.int .u8 r.hi.tag,.int .u32 r.hi.to]] t fun e E=>e=.returned (.int .i64 (k:Int))∧ae t E:=fun t I=>by
  rw[O];exact lW (h.U I) r ax al W
 have a':k<ts.length:=by rw[O];exact fE _ (by have:=W.lt;omega)
 have hs:ts[k]?=some none:=by
  rcases W.stop with hs|⟨s,hs⟩;·rw[O];exact hs
  ·exact(ba s ⟨_,hs⟩).elim
 obtain⟨Y,ah,V⟩:=h.ok.put W (O ▸ hs) id
 rw[←O]at Y ah V
 obtain⟨⟨ad,cap,a2,a3,am⟩,U,⟨p,X⟩,O,a0,W,ah,a1⟩:=h
 have bb:∀x,x=ib∨x=ad→F x:=fun x Q=>by rcases Q with rfl|rfl;exact U;exact am
 have D:(ts.set k (some (r,id))).length=ts.length:=de
 have Z:∀u s,aK.has (ts.set k (some (r,id))) u s→u.ok∧0≤s∧s≤4294967295:=fun u s N=>by
  rcases(V u s).1 N with⟨rfl,rfl⟩|N
  ·exact⟨ax,a8,a9⟩
  ·exact a1 u s N
 refine(uy a2 a3 a0 (by omega) (by omega) k a' r id hs (fun t E=>(t=E∧2*(n+1)≤(ts.length:Int))∨((ts.length:Int)<2*(n+1)∧∃T,dt t ib (ts.set k (some (r,id))) (n+1) ts.length T E)) (fun t I aw=>.inl ⟨rfl,aw⟩) (fun t I av=>?_) a7).mono ?_
 ·refine(tT (F:=F) (w:=t) (ib:=ib) (ts:=ts.set k (some (r,id))) (n:=n+1) ad cap p (by rw[D];exact I.heap) (by rw[D];exact I.row) (by rw[D];exact X) (by omega) (by omega) Y Z).mono ?_;rintro e E ⟨rfl,T,z⟩;rw[D]at z;exact⟨rfl,.inr ⟨av,T,z⟩⟩
 ·rintro e E ⟨rfl,t,I,a4⟩;have ay:af F w t:=I.upd.mono (fun x _ Q=>bb x Q);rcases a4 with⟨rfl,aw⟩|⟨av,T,z⟩
  ·refine⟨rfl,ay,ts.set k (some (r,id)),⟨⟨ad,cap,by rw[D];exact I.heap,by rw[D];exact I.row,.inl am⟩,.inl U,⟨p,by rw[D];exact X⟩,by omega,by omega,by omega,Y,Z⟩,by omega,V⟩
  ·have O:=z.gx;have ab:=z.len;rw[fm (by omega)]at O
   have a5:t.heap.size<E.heap.size:=by
    obtain⟨E,a6⟩:=cU z.row (k:=t.heap.size) rfl;exact bu a6
   have bc:=I.upd.size;refine⟨rfl,ay.bd (z.upd.mono (fun x _ Q=>by subst Q;exact U)),T,⟨⟨t.heap.size,2*ts.length,?_,?_,.inr ⟨bc,a5⟩⟩,.inl U,⟨p+1,by rw[ab,D,X,dA];omega⟩,by omega,by omega,by omega,z.ok,?_⟩,by omega,?_⟩
   ·rw[ab,D];have:=z.heap;rw[D]at this;exact this
   ·rw[ab,D];have:=z.row;rw[D]at this;exact this
   ·intro u s N;obtain⟨j,_,J⟩:=(z.has u s).1 N;exact Z u s ⟨j,J⟩
   ·intro u s;rw[←V u s,z.has u s];constructor
    ·rintro⟨j,_,J⟩;exact⟨j,J⟩
    ·rintro⟨j,J⟩;exact⟨j,by have:=(List.getElem?_eq_some_iff.1 J).1;omega,J⟩
theorem uh (w:World) :
  Calls Tryz.prog 117 #[] w fun e u=>∃ib,e=.returned (.pointer (some ⟨ib,0,none⟩))∧w.heap.size≤ib∧ae w u∧di (fun k=>w.heap.size≤k∧k<u.heap.size) u ib (List.replicate 8 none) 0:=by
 obtain⟨T,hi,N,O,Q⟩:=info_parts og
 go_enter Tryz.func117,Tryz.ntmps117
 go_wp2_with (at_make;refine wpList_make_full _ rfl _ _ 253 rfl w.heap.size 274 T _ 9 Tryz.underlying253 hi N O .i64 .i64 8 8 8 rfl rfl (by omega) (by omega) (by rw[Q];omega) (by unfold maxLen;omega) (aI _) ?_;intro w1 t J)
 go_ret
 rw[oI]at t
 have s:ae w w1:=af.U (F:=fun _=>False) ((af.refl _ w).c' J (fun k s=>by simp at s)) (fun _ _ h=>h)
 obtain⟨u,I⟩:=cU t (k:=w.heap.size) rfl
 have u:=bu I
 obtain⟨z,D,E⟩:=ep.empty bJ 8
 refine⟨w1.heap.size,rfl,s.size,s.alloc _,⟨⟨w.heap.size,8,?_,?_,?_⟩,?_,⟨3,rfl⟩,by simp,by simp,by rw[D];simp,z,fun r id h=>(E r id h).elim⟩⟩
 ·exact heap_alloc_new w1 _
 ·exact o6 (t.alloc _) (Nat.zero_le _)
 ·simp;omega
 ·have:=s.size;simp;omega
end Go.Proofs.YtafkamlhimkbmaaGreat
