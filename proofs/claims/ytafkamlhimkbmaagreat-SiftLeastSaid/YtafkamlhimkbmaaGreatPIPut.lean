/-
  Walks of package index.
-/
import Derived.Test.YtafkamlhimkbmaaGreatPFindA
import Derived.Deep.LoopGhost
namespace Go.Proofs.YtafkamlhimkbmaaGreat
set_option maxRecDepth 1000000
set_option maxHeartbeats 8000000
set_option linter.unusedSimpArgs false
set_option linter.unusedVariables false
open Go.RowKit

def ig (r:Rec):Int:=
 bits BinOp.xor IntKind.u64 (IntKind.u64.wrap (lY r*11400714819323198485)) (IntKind.u64.wrap (lY r*11400714819323198485) / 4294967296)

def aT (r:Rec)(len:Nat):Nat:=(ig r).toNat%len

theorem vw (r:Rec):0≤ig r∧ig r<18446744073709551616:=by
 unfold ig bits;simp only[IntKind.wrap_u64];omega

theorem vx (r:Rec)(p len:Nat)(q:len=2 ^ p)(t:len≤4194304):bits BinOp.and IntKind.u64 (ig r) ((len:Int)-1)=(aT r len:Int):=by
 obtain⟨j,s⟩:=vw r
 have t:p≤22:=by
  rcases Nat.lt_or_ge 22 p with h|h
  ·have:=Nat.pow_lt_pow_right (a:=2) (by decide) h;omega
  ·exact h
 have h:=bits_mask .u64 64 (by decide) (fun n j s=>by rw[IntKind.wrap_u64];omega) p (by omega) (ig r) j (by omega);have e:(len:Int)=2 ^ p:=by rw[q];simp
 rw[e,h,aT,q];rw[Int.natCast_emod,Int.toNat_of_nonneg j];simp

theorem xA (i p len:Nat)(j:len=2 ^ p)(q:len≤4194304)(hi:i<len):bits BinOp.and IntKind.i64 ((i:Int)+1) ((len:Int)-1)=(((i+1)%len:Nat):Int):=by
 have q:p≤22:=by
  rcases Nat.lt_or_ge 22 p with h|h
  ·have:=Nat.pow_lt_pow_right (a:=2) (by decide) h;omega
  ·exact h
 have h:=bits_mask .i64 63 (by decide) (fun n q q=>by rw[IntKind.wrap_i64];omega) p (by omega) ((i:Int)+1) (by omega) (by omega);have e:(len:Int)=2 ^ p:=by rw[j];simp
 rw[e,h,j];simp

theorem xv (a b c d e f g : Value) (w : World) : (method 454 199 (.agg #[a, b, c, d, e, f, g]) "Hash").run Tryz.prog w = .ok (292, .agg #[a, b, c, d, e, f, g]) w := by kernel_rfl

theorem oX (ib J len cap p:Nat)(r:Rec)(E:r.ok)(w:World)(t:w.cell? ⟨ib,0,none⟩=some (.slice (some ⟨J,0,none⟩) len cap))(L:8≤len)(z:len≤4194304)(s:len=2 ^ p) :
  Calls Tryz.prog 211 #[.pointer (some ⟨ib,0,none⟩),.agg #[.int .u8 r.ad,.int .u8 r.I,.int .u8 r.J,.int .u8 r.lo.tag,.int .u32 r.lo.to,.int .u8 r.hi.tag,.int .u32 r.hi.to]] w fun e K=>
   e=.returned (.int .i64 (aT r len:Int))∧aa w K:=by
 have J:ib<w.heap.size:=aD t
 have A:=vx r p len s z
 have t:aT r len<len:=Nat.mod_lt _ (by omega)
 unfold ig at A
 have t:=xv
 clear s
 go_enter Tryz.func211,Tryz.ntmps211
 go_wp2_with (first|(go_at_call 292;refine(vt _ E _).mono ?_;rintro e w1 ⟨rfl,j⟩;have q:aa w w1:=(by(exact kp));obtain⟨s,t⟩:=j.cells;obtain⟨s,t⟩:=q.cells;have I:=j.size;(try simp only[World.size_alloc,World.cD,World.a3,World.size_setCell]at I);have j:=q.size;have j:w.heap.size<w1.heap.size:=(by omega))|fail)
 go_ret
 exact⟨rfl,by(exact kp)⟩

theorem kI (ib s len cap i p:Nat)(w:World)(z:w.cell? ⟨ib,0,none⟩=some (.slice (some ⟨s,0,none⟩) len cap))(A:8≤len)(q:len≤4194304)(hi:i<len)(j:len=2 ^ p) :
  Calls Tryz.prog 210 #[.pointer (some ⟨ib,0,none⟩),.int .i64 i] w fun e t=>
   e=.returned (.int .i64 (((i+1)%len:Nat):Int))∧w=t:=by
 have s:=xA i p len j q hi
 clear j
 go_enter Tryz.func210,Tryz.ntmps210
 go_wp2
 go_ret
 exact⟨rfl,rfl⟩

theorem uP (ib K len cap p D:Nat)(r:Rec)(b1:r.ok)(ts:List (Option (Rec×Int)))(w:World)(L:w.cell? ⟨ib,0,none⟩=some (.slice (some ⟨K,0,none⟩) len cap))(a2:8≤len)(a1:len≤4194304)(a6:len=2 ^ p)
  (bg:∀i c,ts[i]?=some c→∀t,t<9→w.cell? ⟨K,i*9+t,none⟩=(aQ c)[t]?) (be:ts.length=len)
  (b3:D<len) (a4:∀d,d<D→∃q id,ts[(aT r len+d)%len]?=some (some (q,id))∧q≠r)
  (a':ts[(aT r len+D)%len]?=some none∨∃id,ts[(aT r len+D)%len]?=some (some (r,id))) :
  Calls Tryz.prog 200 #[.pointer (some ⟨ib,0,none⟩),.agg #[.int .u8 r.ad,.int .u8 r.I,.int .u8 r.J,.int .u8 r.lo.tag,.int .u32 r.lo.to,.int .u8 r.hi.tag,.int .u32 r.hi.to]] w fun e b2=>
   e=.returned (.int .i64 (((aT r len+D)%len:Nat):Int))∧aa w b2:=by
 have bx:ib<w.heap.size:=aD L
 have a7:=Lib.hid a6
 have b2:=Lib.hid be
 clear a6 be
 have S:=Lib.hid bg
 have bn:=Lib.hid a4
 have bq:=Lib.hid a'
 clear bg a4 a'
 go_enter Tryz.func200,Tryz.ntmps200
 go_wp2_with (first|(go_at_call 211;refine(oX ib K len cap p r b1 _ (by simp[go_sem,L,bx]) a2 a1 a7.out).mono ?_;rintro e w1 ⟨rfl,U⟩;have z:aa w w1:=(by(exact kp));obtain⟨br,bv⟩:=U.cells;obtain⟨bs,bw⟩:=z.cells;have bb:=U.size;(try simp only[World.size_alloc,World.cD,World.a3,World.size_setCell]at bb);have a4:=z.size;have a6:w.heap.size<w1.heap.size:=(by omega))|fail)
 have a':aa (w.alloc (.cells #[.int .u8 r.ad,.int .u8 r.I,.int .u8 r.J,.int .u8 r.lo.tag,.int .u32 r.lo.to,.int .u8 r.hi.tag,.int .u32 r.hi.to] 199)) w1:=U
 have U:=fI a'
 have O:=z.cell L
 clear br bv bs bw bb a4 a6
 have bi:=Lib.hid U
 have bp:=Lib.hid O
 clear U O L
 go_loopg [5] D (fun gk i wr=>∃d k:Nat,d+gk=D∧Hid (k=(aT r len+d)%len)∧k<len∧i=.int .i64 (k:Int)∧aa w1 wr)
 case atStart=>exact⟨0,aT r len,by omega,(by show _=_;rw[Nat.add_zero,Nat.mod_eq_of_lt];unfold aT;exact Nat.mod_lt _ (by omega)),(by unfold aT;exact Nat.mod_lt _ (by omega)),rfl,aa.refl _⟩
 case round=>
  obtain⟨d,k,N,A,b0,rfl,J⟩:=hrel;obtain⟨L,U,a4,a6,a',bb,be⟩:=J.eR bi.out;have O:=J.cell bp.out;have L:(k:Int)<(len:Int):=by omega
  by_cases W:gk=0
  ·subst W;rcases bq.out with E|⟨id,E⟩
   ·have a8:=(J.cell (z.cell ((S.out _ _ E 8 (by omega)).trans rfl)));have s:d=D:=(by omega);have L:wr.cell? ⟨K,k*9+8,none⟩=some (.bool false):=(by rw[A.out,s];exact a8);have s:=Lib.hid s;clear a8 N;go_wp2_with fail
    go_quiet (fail)
    go_wp2
    go_ret
    have T:k=(aT r len+D)%len:=(by rw[A.out,s.out]);refine⟨?_,by(exact kp)⟩;rw[←T];rfl
   ·have j:=fun t I=>J.cell (z.cell ((S.out _ _ E t I).trans (List.getElem?_eq_getElem (by rw[dT];exact I))));have s:d=D:=(by omega);rw[←s,←A.out]at j;have X:=j 0 (by omega);have Y:=j 1 (by omega);have Z:=j 2 (by omega);have ab:=j 3 (by omega);have ad:=j 4 (by omega);have am:=j 5 (by omega);have av:=j 6 (by omega);have aw:=j 8 (by omega);simp[aQ,fy]at X Y Z ab ad am av aw;have s:=Lib.hid s;clear j N;go_wp2_with fail
    go_quiet (fail)
    go_wp2
    go_ret
    have T:k=(aT r len+D)%len:=(by rw[A.out,s.out]);refine⟨?_,by(exact kp)⟩;rw[←T];rfl
  ·obtain⟨q,id,E,a5⟩:=bn.out d (by omega);have j:=fun t I=>J.cell (z.cell ((S.out _ _ E t I).trans (List.getElem?_eq_getElem (by rw[dT];exact I))));rw[←A.out]at j;have X:=j 0 (by omega);have Y:=j 1 (by omega);have Z:=j 2 (by omega);have ab:=j 3 (by omega);have ad:=j 4 (by omega);have am:=j 5 (by omega);have av:=j 6 (by omega);have aw:=j 8 (by omega);simp[aQ,fy]at X Y Z ab ad am av aw;have s:∀s,(binOp .neq 199 (.agg #[.int .u8 q.ad,.int .u8 q.I,.int .u8 q.J,.int .u8 q.lo.tag,.int .u32 q.lo.to,.int .u8 q.hi.tag,.int .u32 q.hi.to]) (.agg #[.int .u8 r.ad,.int .u8 r.I,.int .u8 r.J,.int .u8 r.lo.tag,.int .u32 r.lo.to,.int .u8 r.hi.tag,.int .u32 r.hi.to])).run Tryz.prog s=.ok (.bool true) s:=fun s=>(by rw[zo];simp[a5]);have bt:=Lib.hid N;have a3:=Lib.hid W;clear j E a5 N W;go_wp2_with fail
   go_quiet (fail)
   go_wp2_with (first|(go_at_call 210;refine(kI ib K len cap k p _ (by simpa using O) a2 a1 b0 a7.out).mono ?_;rintro e j ⟨rfl,rfl⟩)|fail)
   go_roundg (gk-1)
   case rel=>exact⟨d+1,(k+1)%len,by have:=bt.out;have:=a3.out;omega,(by show _=_;rw[A.out];simp[Nat.add_assoc,Nat.mod_add_mod]),Nat.mod_lt _ (by omega),rfl,by(exact kp)⟩
   case measure=>have:=a3.out;omega

structure cO (F:Nat→Prop)(w:World)(ib:Nat)(ts:ah)(n:Int):Prop where
 hU:∃tb cap,w.heap[ib]?=some (.cells #[.slice (some ⟨tb,0,none⟩) ts.length cap,.int .i64 n] 255 (0,0)) ∧
  w.ownsRow 0 274 9 (.slice (some ⟨tb,0,none⟩) ts.length cap) ts.length (ts.flatMap aQ)∧F tb
 own:F ib
 hK:∃p,ts.length=2 ^ p
 g1:8≤ts.length
 hh:ts.length≤4194304
 hB:2*occ ts≤ts.length
 ok:dD aT ts
 b1:∀r id,ah.has ts r id→r.ok∧0≤id∧id≤4294967295

theorem vG (ib j len cap k:Nat)(r x:Rec)(id:Int)(b:Bool)(w:World)(I:w.cell? ⟨ib,0,none⟩=some (.slice (some ⟨j,0,none⟩) len cap))(X:len≤4194304)(t:k<len)
  (E:w.cell? ⟨j,k*9,none⟩=some (.int .u8 x.ad)) (K:w.cell? ⟨j,k*9+1,none⟩=some (.int .u8 x.I)) (L:w.cell? ⟨j,k*9+2,none⟩=some (.int .u8 x.J))
  (N:w.cell? ⟨j,k*9+3,none⟩=some (.int .u8 x.lo.tag)) (O:w.cell? ⟨j,k*9+4,none⟩=some (.int .u32 x.lo.to)) (S:w.cell? ⟨j,k*9+5,none⟩=some (.int .u8 x.hi.tag))
  (T:w.cell? ⟨j,k*9+6,none⟩=some (.int .u32 x.hi.to)) (U:w.cell? ⟨j,k*9+7,none⟩=some (.int .u32 id)) (W:w.cell? ⟨j,k*9+8,none⟩=some (.bool b))
  (A:∀s,aa w s→Calls Tryz.prog 200 #[.pointer (some ⟨ib,0,none⟩),.agg #[.int .u8 r.ad,.int .u8 r.I,.int .u8 r.J,.int .u8 r.lo.tag,.int .u32 r.lo.to,.int .u8 r.hi.tag,.int .u32 r.hi.to]] s fun e q=>
    e=.returned (.int .i64 (k:Int))∧aa s q) :
  Calls Tryz.prog 135 #[.pointer (some ⟨ib,0,none⟩),.agg #[.int .u8 r.ad,.int .u8 r.I,.int .u8 r.J,.int .u8 r.lo.tag,.int .u32 r.lo.to,.int .u8 r.hi.tag,.int .u32 r.hi.to]] w fun e q=>
   e=.returned (.tuple #[.int .u32 (if b then id else 0),.bool b])∧aa w q:=by
 have s:ib<w.heap.size:=aD I
 have s:j<w.heap.size:=aD E
 have s:(k:Int)<(len:Int):=by omega
 have s:w.heap.size+1≠ib:=by omega
 have s:w.heap.size+1≠j:=by omega
 have H:=Lib.hid A
 clear A
 go_enter Tryz.func135,Tryz.ntmps135
 go_wp2
 go_region_held3 (fun q=>q.cell? ⟨ib,0,none⟩=some (.slice (some ⟨j,0,none⟩) len cap)∧(q.cell? ⟨w.heap.size,0,none⟩=some (.int .u8 r.ad)∧q.cell? ⟨w.heap.size,1,none⟩=some (.int .u8 r.I)∧q.cell? ⟨w.heap.size,2,none⟩=some (.int .u8 r.J)∧q.cell? ⟨w.heap.size,3,none⟩=some (.int .u8 r.lo.tag)∧q.cell? ⟨w.heap.size,4,none⟩=some (.int .u32 r.lo.to)∧q.cell? ⟨w.heap.size,5,none⟩=some (.int .u8 r.hi.tag)∧q.cell? ⟨w.heap.size,6,none⟩=some (.int .u32 r.hi.to))∧(q.cell? ⟨j,k*9,none⟩=some (.int .u8 x.ad)∧q.cell? ⟨j,k*9+1,none⟩=some (.int .u8 x.I)∧q.cell? ⟨j,k*9+2,none⟩=some (.int .u8 x.J)∧q.cell? ⟨j,k*9+3,none⟩=some (.int .u8 x.lo.tag)∧q.cell? ⟨j,k*9+4,none⟩=some (.int .u32 x.lo.to)∧q.cell? ⟨j,k*9+5,none⟩=some (.int .u8 x.hi.tag)∧q.cell? ⟨j,k*9+6,none⟩=some (.int .u32 x.hi.to)∧q.cell? ⟨j,k*9+7,none⟩=some (.int .u32 id)∧q.cell? ⟨j,k*9+8,none⟩=some (.bool b))) (go_keep) ((first|(go_at_call 200;refine(H.out _ (by(exact kp))).mono ?_;rintro e w1 ⟨rfl,z⟩;obtain⟨q,s,A,E,I,K,L⟩:=fI (w:=w) (w1:=w1) (show aa (w.alloc (.cells #[.int .u8 r.ad,.int .u8 r.I,.int .u8 r.J,.int .u8 r.lo.tag,.int .u32 r.lo.to,.int .u8 r.hi.tag,.int .u32 r.hi.to] 199)) w1 by(exact kp));have t:aa w w1:=(by(exact kp));obtain⟨q,s⟩:=z.cells;obtain⟨q,s⟩:=t.cells;have J:=z.size;(try simp only[World.size_alloc,World.cD,World.a3,World.size_setCell]at J);have q:=t.size;have q:w.heap.size<w1.heap.size:=(by omega);have q:w1.heap.size≠ib:=(by omega);have q:w1.heap.size≠j:=(by omega);have j:w1.heap.size≠w.heap.size:=(by omega))))
 all_goals cases b
 all_goals(go_wp2;go_ret2;exact⟨rfl,by(exact kp)⟩)

theorem cO.open {F:Nat→Prop}{w:World}{ib:Nat}{ts:ah}{n:Int}(h:cO F w ib ts n) :
  ∃q cap,w.cell? ⟨ib,0,none⟩=some (.slice (some ⟨q,0,none⟩) ts.length cap)∧w.cell? ⟨ib,1,none⟩=some (.int .i64 n)∧F q∧ib≠q ∧
   (∀i c,ts[i]?=some c→∀j,j<9→w.cell? ⟨q,i*9+j,none⟩=(aQ c)[j]?)∧(∀j,w.frozen? ⟨q,j,none⟩=false)∧(∀j,w.frozen? ⟨ib,j,none⟩=false):=by
 obtain⟨⟨q,cap,s,t,A⟩,_⟩:=h
 obtain⟨z,E⟩:=bJ t (k:=q) rfl
 refine⟨q,cap,by rw[cell_of_row w ib 0 _ _ _ s];rfl,by rw[cell_of_row w ib 1 _ _ _ s];rfl,A,(dm E s (by decide)).symm,fun i c z j I=>?_,fun j=>t.frozenAt j,fun j=>frozen_of_row w ib j _ _ s⟩
 have hi:=(List.getElem?_eq_some_iff.1 z).1
 rw[t.cellAt (i*9+j) (by omega)]
 exact ef aQ 9 dT ts i j c z I

theorem cO.a4 {F G:Nat→Prop}{w j:World}{ib:Nat}{ts:ah}{n:Int}(h:cO F w ib ts n)(A:ae G w j)(t:∀k,F k→¬G k):cO F j ib ts n:=by
 obtain⟨⟨S,cap,j,O,s⟩,q,E,I,J,K,L,N⟩:=h;exact⟨⟨S,cap,(A.block ib (aK j) (t _ q)).trans j,A.bq (fun k z=>by simp[Value.ownBlock]at z;subst z;exact t _ s) O,s⟩,q,E,I,J,K,L,N⟩

theorem cO.U {F:Nat→Prop}{w j:World}{ib:Nat}{ts:ah}{n:Int}(h:cO F w ib ts n)(q:aa w j):cO F j ib ts n:=
 h.a4 (q.av (fun _=>False)) (fun _ _ h=>h)

theorem cO.room {F:Nat→Prop}{w:World}{ib:Nat}{ts:ah}{n:Int}(h:cO F w ib ts n):∃e:Nat,ts[e]?=some none:=
 pR (by have:=h.hB;have:=h.g1;omega)

theorem ko {F:Nat→Prop}{w:World}{ib:Nat}{ts:ah}{n:Int}(h:cO F w ib ts n)(r:Rec)(t:r.ok)(D:Nat)(j:Ends aT ts r D) :
  Calls Tryz.prog 200 #[.pointer (some ⟨ib,0,none⟩),.agg #[.int .u8 r.ad,.int .u8 r.I,.int .u8 r.J,.int .u8 r.lo.tag,.int .u32 r.lo.to,.int .u8 r.hi.tag,.int .u32 r.hi.to]] w fun e q=>e=.returned (.int .i64 (((aT r ts.length+D)%ts.length:Nat):Int))∧aa w q:=by
 obtain⟨p,s⟩:=h.hK
 obtain⟨A,cap,q,E,_,_,z,_⟩:=h.open
 exact uP ib A ts.length cap p D r t ts w q h.g1 h.hh s z rfl j.lt j.go j.stop

theorem o5 {F:Nat→Prop}{w:World}{ib:Nat}{ts:ah}{n:Int}(h:cO F w ib ts n)(r x:Rec)(k:Nat)(c:Option (Rec×Int))(id:Int)(b:Bool)(s:ts[k]?=some c)(z:aQ c=fy x++[.int .u32 id,.bool b])
  (O:∀j,aa w j→Calls Tryz.prog 200 #[.pointer (some ⟨ib,0,none⟩),.agg #[.int .u8 r.ad,.int .u8 r.I,.int .u8 r.J,.int .u8 r.lo.tag,.int .u32 r.lo.to,.int .u8 r.hi.tag,.int .u32 r.hi.to]] j fun e q=>e=.returned (.int .i64 (k:Int))∧aa j q) :
  Calls Tryz.prog 135 #[.pointer (some ⟨ib,0,none⟩),.agg #[.int .u8 r.ad,.int .u8 r.I,.int .u8 r.J,.int .u8 r.lo.tag,.int .u32 r.lo.to,.int .u8 r.hi.tag,.int .u32 r.hi.to]] w fun e q=>e=.returned (.tuple #[.int .u32 (if b then id else 0),.bool b])∧aa w q:=by
 obtain⟨q,cap,t,A,_,I,j,E,_⟩:=h.open
 have S:=(List.getElem?_eq_some_iff.1 s).1
 have j:=j k c s
 rw[z]at j
 have s:w.cell? ⟨q,k*9,none⟩=some (.int .u8 x.ad):=j 0 (by omega)
 have z:w.cell? ⟨q,k*9+1,none⟩=some (.int .u8 x.I):=j 1 (by omega)
 have A:w.cell? ⟨q,k*9+2,none⟩=some (.int .u8 x.J):=j 2 (by omega)
 have E:w.cell? ⟨q,k*9+3,none⟩=some (.int .u8 x.lo.tag):=j 3 (by omega)
 have I:w.cell? ⟨q,k*9+4,none⟩=some (.int .u32 x.lo.to):=j 4 (by omega)
 have J:w.cell? ⟨q,k*9+5,none⟩=some (.int .u8 x.hi.tag):=j 5 (by omega)
 have K:w.cell? ⟨q,k*9+6,none⟩=some (.int .u32 x.hi.to):=j 6 (by omega)
 have L:w.cell? ⟨q,k*9+7,none⟩=some (.int .u32 id):=j 7 (by omega)
 have N:w.cell? ⟨q,k*9+8,none⟩=some (.bool b):=j 8 (by omega)
 exact vG ib q ts.length cap k r x id b w t h.hh S s z A E I J K L N O

theorem vJ {F:Nat→Prop}{w:World}{ib:Nat}{ts:ah}{n:Int}(h:cO F w ib ts n)(r:Rec)(K:r.ok)(o:Option Int)(I:∀id,ah.has ts r id↔o=some id) :
  Calls Tryz.prog 135 #[.pointer (some ⟨ib,0,none⟩),.agg #[.int .u8 r.ad,.int .u8 r.I,.int .u8 r.J,.int .u8 r.lo.tag,.int .u32 r.lo.to,.int .u8 r.hi.tag,.int .u32 r.hi.to]] w fun e s=>e=.returned (.tuple #[.int .u32 (o.getD 0),.bool o.isSome])∧aa w s:=by
 obtain⟨D,z⟩:=kg (H:=aT) r h.room
 have E:∀t,aa w t→Calls Tryz.prog 200 #[.pointer (some ⟨ib,0,none⟩),.agg #[.int .u8 r.ad,.int .u8 r.I,.int .u8 r.J,.int .u8 r.lo.tag,.int .u32 r.lo.to,.int .u8 r.hi.tag,.int .u32 r.hi.to]] t fun e s=>e=.returned (.int .i64 (((aT r ts.length+D)%ts.length:Nat):Int))∧aa t s:=fun t t=>ko (h.U t) r K D z
 rcases z.stop with q|⟨id,q⟩
 ·have A:o=none:=by
   cases J:o with
   |none=>rfl
   |some id=>
    have:=z.fl h.ok ((I id).2 J);rw[q]at this;simp at this
  subst A;exact(o5 h r Rec.zero _ none 0 false q rfl E).mono fun e s j=>⟨j.1,j.2⟩
 ·have A:o=some id:=(I id).1 ⟨_,q⟩;subst A;exact(o5 h r r _ (some (r,id)) id true q rfl E).mono fun e s j=>⟨j.1,j.2⟩

theorem o9:(Tryz.prog.info? 274).map (fun i=>(i.zero,i.size,i.bytes))=some (some (.agg #[.int .u8 0,.int .u8 0,.int .u8 0,.int .u8 0,.int .u32 0,.int .u8 0,.int .u32 0,.int .u32 0,.bool false]),9,28):=by kernel_rfl

theorem pD (n:Nat):(madeCells (Value.agg #[.int .u8 0,.int .u8 0,.int .u8 0,.int .u8 0,.int .u32 0,.int .u8 0,.int .u32 0,.int .u32 0,.bool false]).cells (n*9)).toList=(List.replicate n (none:Option (Rec×Int))).flatMap aQ:=by
 apply List.ext_getElem?;intro j;by_cases t:j<n*9
 ·have z:j / 9<n:=by omega
  have s:(List.replicate n (none:Option (Rec×Int)))[j / 9]?=some none:=by simp[z]
  have:=ef aQ 9 dT (List.replicate n none) (j / 9) (j%9) none s (by omega);rw[show j / 9*9+j%9=j by omega]at this;rw[this];have q:j%9<9:=by omega
  simp only[madeCells,Array.getElem?_toList,Array.getElem?_map,Value.cells];rw[Array.getElem?_eq_getElem (by simpa using t)];simp only[Array.getElem_range,Option.map_some];generalize j%9=m at q;match m,q with
  |0,_=>rfl
  |1,_=>rfl
  |2,_=>rfl
  |3,_=>rfl
  |4,_=>rfl
  |5,_=>rfl
  |6,_=>rfl
  |7,_=>rfl
  |8,_=>rfl
 ·rw[List.getElem?_eq_none (by simp[madeCells];omega),List.getElem?_eq_none (by rw[lS aQ 9 dT];simp;omega)]

structure du (w:World)(ib:Nat)(ts:ah)(n:Int)(i:Nat)(nt:ah)(wr:World):Prop where
 len:nt.length=2*ts.length
 ok:dD aT nt
 has:∀r id,ah.has nt r id↔∃j,j<i∧ah.at ts j r id
 gh:occ nt=occ (ts.take i)
 heap:wr.heap[ib]?=some (.cells #[.slice (some ⟨w.heap.size,0,none⟩) (2*ts.length) (2*ts.length),.int .i64 n] 255 (0,0))
 row:wr.ownsRow 0 274 9 (.slice (some ⟨w.heap.size,0,none⟩) (2*ts.length) (2*ts.length)) (2*ts.length) (nt.flatMap aQ)
 av:ae (fun k=>k=ib) w wr

theorem pW {w:World}{b b':Nat}{e:TypeId}{size:Nat}{v:Value}{n:Nat}{xs:List Value}(h:w.ownsRow b e size v n xs)(j:b'≤b):w.ownsRow b' e size v n xs:=by
 refine⟨h.1,?_⟩;rcases h.2 with j|⟨g,cap,q,s,j,t⟩;·exact .inl j
 ·exact .inr ⟨g,cap,q,s,by omega,t⟩

theorem du.start {w w1:World}{ib:Nat}{ts:ah}{n:Int}{v:Value}(s:w.heap[ib]?=some (.cells #[v,.int .i64 n] 255 (0,0)))
  (t:w1.ownsRow w.heap.size 274 9 (.slice (some ⟨w.heap.size,0,none⟩) (2*ts.length) (2*ts.length)) (2*ts.length) (madeCells (Value.agg #[.int .u8 0,.int .u8 0,.int .u8 0,.int .u8 0,.int .u32 0,.int .u8 0,.int .u32 0,.int .u32 0,.bool false]).cells (2*ts.length*9)).toList)
  (q:w.grownBy w1 none) :
  du w ib ts n 0 (List.replicate (2*ts.length) none) (w1.setCell ⟨ib,0,none⟩ (.slice (some ⟨w.heap.size,0,none⟩) (2*ts.length) (2*ts.length))):=by
 obtain⟨z,A,E⟩:=dD.empty aT (2*ts.length)
 have J:=aK s
 have I:w1.heap[ib]?=some (.cells #[v,.int .i64 n] 255 (0,0)):=(q.block ib J (by simp)).trans s
 refine⟨by simp,z,fun r id=>⟨fun h=>(E r id h).elim,fun⟨z,s,_⟩=>by omega⟩,by rw[A];simp[occ],?_,?_,?_⟩
 ·exact heap_setCell_same w1 ib 0 _ _ _ I
 ·rw[pD]at t;refine ae.bq (F:=fun k=>k=ib) (ae.setCell (F:=fun k=>k=ib) (p:=⟨ib,0,none⟩) (ae.refl _ _) (Or.inl rfl) _) (fun k j=>?_) (pW t (Nat.zero_le _));simp[Value.ownBlock]at j;omega
 ·exact ae.setCell (F:=fun k=>k=ib) (p:=⟨ib,0,none⟩) (ae.ca (ae.refl _ _) q (fun k j=>by simp at j)) (Or.inl rfl) _

theorem du.skip {w wr s:World}{ib:Nat}{ts t:ah}{n:Int}{i:Nat}(h:du w ib ts n i t wr)(q:aa wr s)(hi:ts[i]?=some none):du w ib ts n (i+1) t s:=by
 obtain⟨s,t,z,A,E,I,J⟩:=h;refine⟨s,t,fun r id=>(z r id).trans ⟨fun⟨j,s,h⟩=>⟨j,by omega,h⟩,fun⟨j,s,h⟩=>⟨j,?_,h⟩⟩,?_,q.heap E,q.bq I,J.a' (q.av _)⟩
 ·rcases Nat.lt_or_ge j i with q|s;·exact q
  ·have:j=i:=(by omega);subst this;unfold ah.at at h;rw[hi]at h;simp at h
 ·rw[A,List.take_add_one,hi];simp[occ,List.countP_append]

theorem du.step {w wr E:World}{ib:Nat}{ts s:ah}{n:Int}{i:Nat}(h:du w ib ts n i s wr)(z:aa wr E){r:Rec}{id:Int}(hi:ts[i]?=some (some (r,id))){D:Nat}
  (K:Ends aT s r D) (a5:dD aT ts) (k:Nat) (A:k=(aT r s.length+D)%s.length) :
  du w ib ts n (i+1) (s.set k (some (r,id))) (cU E w.heap.size (k*9) (aQ (some (r,id)))):=by
 obtain⟨O,ad,I,am,J,S,T⟩:=h
 have Z:k<s.length:=by rw[A];exact Nat.mod_lt _ (by have:=K.lt;omega)
 have a4:s[k]?=some none:=by
  rcases K.stop with L|⟨t,L⟩;·rw[A];exact L
  ·obtain⟨q,Y,j⟩:=(I r t).1 ⟨_,L⟩;have:=a5.c8 q i r t id j hi;omega
 obtain⟨U,W,X⟩:=ad.put K (A ▸ a4) id
 rw[←A]at U W X
 have av:=aK J
 have a2:ib≠w.heap.size:=by
  obtain⟨s,aw⟩:=bJ S (k:=w.heap.size) rfl;exact dm J aw (by decide)
 have ab:=iw w.heap.size (aQ (some (r,id))) (k*9) E
 refine⟨by rw[List.length_set,O],U,fun N t=>(X N t).trans ⟨?_,?_⟩,?_,?_,?_,?_⟩
 ·rintro(⟨rfl,rfl⟩|a1);·exact⟨i,by omega,hi⟩
  ·obtain⟨q,Y,j⟩:=(I N t).1 a1;exact⟨q,by omega,j⟩
 ·rintro⟨q,Y,j⟩;rcases Nat.lt_or_ge q i with Z|s;·exact .inr ((I N t).2 ⟨q,Z,j⟩)
  ·have:q=i:=(by omega);subst this;unfold ah.at at j;rw[hi]at j;simp at j;exact .inl ⟨j.1.symm,j.2.symm⟩
 ·rw[W,am,List.take_add_one,hi];simp[occ,List.countP_append]
 ·exact(ab.block ib (Nat.lt_of_lt_of_le av z.size) a2).trans (z.heap J)
 ·exact ja aQ dT O (z.bq S) k (by omega) (some (r,id))
 ·refine(T.a' (z.av _)).trans ((ab.mono (fun j a3 e=>?_)));subst e;have:=T.size;have:=z.size;exact .inr ⟨Nat.le_refl _,a3⟩

theorem pS (ts:ah)(i:Nat):occ (ts.take i)≤i∧occ (ts.take i)≤ts.length:=by
 have j:occ (ts.take i)≤(ts.take i).length:=List.countP_le_length;have j:(ts.take i).length=min i ts.length:=List.length_take;omega

theorem du.a5 {w wr:World}{ib:Nat}{ts j:ah}{n:Int}{i:Nat}(h:du w ib ts n i j wr){p:Nat}(t:ts.length=2 ^ p)(A:8≤ts.length)(z:ts.length≤2097152)
  (q:∀r id,ah.has ts r id→r.ok∧0≤id∧id≤4294967295):cO (fun _=>True) wr ib j n:=by
 have j:=h.len
 have z:=h.gh
 have z:=pS ts i
 refine⟨⟨w.heap.size,2*ts.length,?_,?_,trivial⟩,trivial,⟨p+1,by rw[j,t,Nat.pow_succ];omega⟩,by omega,by omega,by omega,h.ok,fun r id s=>?_⟩
 ·rw[j];exact h.heap
 ·rw[j];exact h.row
 ·obtain⟨t,_,j⟩:=(h.has r id).1 s;exact q r id ⟨t,j⟩

theorem du.room {w wr:World}{ib:Nat}{ts j:ah}{n:Int}{i:Nat}(h:du w ib ts n i j wr)(q:8≤ts.length):∃e:Nat,j[e]?=some none:=by
 have j:=h.len;have j:=h.gh;have j:=pS ts i;exact pR (by omega)

theorem du.hr {w wr:World}{ib:Nat}{ts q:ah}{n:Int}{i:Nat}(h:du w ib ts n i q wr)(K:dD aT ts){r:Rec}{id:Int}(hi:ts[i]?=some (some (r,id))){D:Nat}(t:Ends aT q r D){k:Nat}(E:k=(aT r q.length+D)%q.length) :
  k<2*ts.length∧(∀j,j<9→wr.cell? ⟨w.heap.size,k*9+j,none⟩=(aQ none)[j]?)∧(∀j,wr.frozen? ⟨w.heap.size,j,none⟩=false)∧w.heap.size<wr.heap.size∧w.heap.size≠ib:=by
 have L:=h.len
 have L:k<q.length:=by rw[E];exact Nat.mod_lt _ (by have:=t.lt;omega)
 have J:q[k]?=some none:=by
  rcases t.stop with s|⟨I,s⟩;·rw[E];exact s
  ·obtain⟨j,A,t⟩:=(h.has r I).1 ⟨_,s⟩;have:=K.c8 j i r I id t hi;omega
 obtain⟨s,z⟩:=bJ h.row (k:=w.heap.size) rfl
 exact⟨by omega,fun j A=>(h.row.cellAt (k*9+j) (by omega)).trans (ef aQ 9 dT q k j none J A),fun j=>h.row.frozenAt j,aK z,dm z h.heap (by decide)⟩

theorem vh {F:Nat→Prop}{w:World}{ib:Nat}{ts:ah}{n:Int}(j cap p:Nat)(O:w.heap[ib]?=some (.cells #[.slice (some ⟨j,0,none⟩) ts.length cap,.int .i64 n] 255 (0,0)))
  (a7:w.ownsRow 0 274 9 (.slice (some ⟨j,0,none⟩) ts.length cap) ts.length (ts.flatMap aQ)) (a6:ts.length=2 ^ p) (a1:8≤ts.length) (b0:ts.length≤2097152)
  (a4:dD aT ts) (a3:∀r id,ah.has ts r id→r.ok∧0≤id∧id≤4294967295) :
  Calls Tryz.prog 203 #[.pointer (some ⟨ib,0,none⟩)] w fun e t=>e=.returned (.tuple #[])∧∃J,du w ib ts n ts.length J t:=by
 have S:w.cell? ⟨ib,0,none⟩=some (.slice (some ⟨j,0,none⟩) ts.length cap):=by rw[cell_of_row w ib 0 _ _ _ O];rfl
 have aw:w.frozen? ⟨ib,0,none⟩=false:=frozen_of_row w ib 0 _ _ O
 have b4:=aK O
 obtain⟨cf,hi,cb,cd,ce⟩:=info_parts o9
 have am:=Lib.hid O
 have bb:=Lib.hid a6
 clear O a6
 go_enter Tryz.func203,Tryz.ntmps203
 go_wp2_with (at_make;refine wpList_make_full _ rfl (.tmp 12) (.tmp 12) 253 rfl w.heap.size 274 cf _ 9 Tryz.underlying253 hi cb cd .i64 .i64 (2*(ts.length:Int)) (2*(ts.length:Int)) (2*ts.length) rfl rfl (by omega) (by omega) (by rw[ce];omega) (by unfold maxLen;omega) (Nat.le_refl _) ?_;intro w1 a5 U;have bg:=gL (o:=0) U (by simp) S;have bx:=lW (o:=0) U b4 (by simp) aw)
 have b9:=du.start (ts:=ts) (n:=n) am.out a5 U
 have ad:=Lib.hid a3
 have Z:=Lib.hid a7
 have av:=Lib.hid a4
 clear a5 U bg bx a3 a7 S aw a4
 go_loopg [18] ts.length (fun gk v wr=>∃(i:Nat) (J:ah),i+gk=ts.length∧v=.int .i64 (i:Int)∧du w ib ts n i J wr)
 case atStart=>exact⟨0,_,by omega,rfl,b9⟩
 case round=>
  obtain⟨i,J,W,rfl,I⟩:=hrel;by_cases b3:gk=0
  ·subst b3;have e:¬(i:Int)<(ts.length:Int):=(by omega);obtain rfl:i=ts.length:=(by omega);go_wp2
   go_end0
   exact⟨rfl,J,I⟩
  ·have e:(i:Int)<(ts.length:Int):=(by omega);have b6:i<ts.length:=(by omega);obtain⟨c,N⟩:∃c,ts[i]?=some c:=⟨_,List.getElem?_eq_getElem b6⟩;have O:=aK (bJ Z.out (k:=j) rfl).choose_spec
   have a8:j≠ib:=by
    obtain⟨O,b1⟩:=bJ Z.out (k:=j) rfl;exact dm b1 am.out (by decide)
   have ab:=I.av.bq (fun k b5=>by simp[Value.ownBlock]at b5;omega) Z.out;have q:=fun K (O:K<9)=>(ab.cellAt (i*9+K) (by omega)).trans (ef aQ 9 dT ts i K c N O);cases c with
   |none=>
    have bi:wr.cell? ⟨j,i*9,none⟩=some (.int .u8 0):=q 0 (by omega);have bn:wr.cell? ⟨j,i*9+1,none⟩=some (.int .u8 0):=q 1 (by omega);have bp:wr.cell? ⟨j,i*9+2,none⟩=some (.int .u8 0):=q 2 (by omega);have bq:wr.cell? ⟨j,i*9+3,none⟩=some (.int .u8 0):=q 3 (by omega);have br:wr.cell? ⟨j,i*9+4,none⟩=some (.int .u32 0):=q 4 (by omega);have bs:wr.cell? ⟨j,i*9+5,none⟩=some (.int .u8 0):=q 5 (by omega);have bt:wr.cell? ⟨j,i*9+6,none⟩=some (.int .u32 0):=q 6 (by omega);have bv:wr.cell? ⟨j,i*9+7,none⟩=some (.int .u32 0):=q 7 (by omega);have bw:wr.cell? ⟨j,i*9+8,none⟩=some (.bool false):=q 8 (by omega);have L:=Lib.hid N;have Y:=Lib.hid W;clear q ab N W a8;go_wp2
    go_roundg (gk-1)
    case rel=>exact⟨i+1,J,by have:=Y.out;omega,by go_num,I.skip (by(exact kp)) L.out⟩
    case measure=>omega
   |some c=>
    obtain⟨r,id⟩:=c;have bi:wr.cell? ⟨j,i*9,none⟩=some (.int .u8 r.ad):=q 0 (by omega);have bn:wr.cell? ⟨j,i*9+1,none⟩=some (.int .u8 r.I):=q 1 (by omega);have bp:wr.cell? ⟨j,i*9+2,none⟩=some (.int .u8 r.J):=q 2 (by omega);have bq:wr.cell? ⟨j,i*9+3,none⟩=some (.int .u8 r.lo.tag):=q 3 (by omega);have br:wr.cell? ⟨j,i*9+4,none⟩=some (.int .u32 r.lo.to):=q 4 (by omega);have bs:wr.cell? ⟨j,i*9+5,none⟩=some (.int .u8 r.hi.tag):=q 5 (by omega);have bt:wr.cell? ⟨j,i*9+6,none⟩=some (.int .u32 r.hi.to):=q 6 (by omega);have bv:wr.cell? ⟨j,i*9+7,none⟩=some (.int .u32 id):=q 7 (by omega);have bw:wr.cell? ⟨j,i*9+8,none⟩=some (.bool true):=q 8 (by omega);have L:=Lib.hid N;have Y:=Lib.hid W;clear q ab N W a8;have b8:=I.a5 bb.out a1 b0 ad.out;have b7:r.ok:=(ad.out r id ⟨i,L.out⟩).1;obtain⟨D,T⟩:=kg (H:=aT) r (I.room a1);obtain⟨k,X⟩:∃k:Nat,k=(aT r J.length+D)%J.length:=⟨_,rfl⟩;obtain⟨j,q,b2,ca,N⟩:=I.hr av.out L.out T X
    have a2:∀j,aa wr j→Calls Tryz.prog 200 #[.pointer (some ⟨ib,0,none⟩),.agg #[.int .u8 r.ad,.int .u8 r.I,.int .u8 r.J,.int .u8 r.lo.tag,.int .u32 r.lo.to,.int .u8 r.hi.tag,.int .u32 r.hi.to]] j fun e t=>e=.returned (.int .i64 (k:Int))∧aa j t:=fun j j=>by
     rw[X];exact ko (b8.U j) r b7 D T
    have a':=Lib.hid T;have be:=Lib.hid X;have E:=Lib.hid q;have H:=Lib.hid a2;have j:(k:Int)<2*(ts.length:Int):=(by omega);have j:w.heap.size≠wr.heap.size:=(by omega);have S:wr.cell? ⟨ib,0,none⟩=some (.slice (some ⟨w.heap.size,0,none⟩) (2*ts.length) (2*ts.length)):=(by rw[cell_of_row wr ib 0 _ _ _ I.heap];rfl);have j:ib<wr.heap.size:=aK I.heap;clear T X q a2;go_wp2_with fail
    go_region_held3 (fun t=>t.cell? ⟨ib,0,none⟩=some (.slice (some ⟨w.heap.size,0,none⟩) (2*ts.length) (2*ts.length))∧(t.cell? ⟨wr.heap.size,0,none⟩=some (.int .u8 r.ad)∧t.cell? ⟨wr.heap.size,1,none⟩=some (.int .u8 r.I)∧t.cell? ⟨wr.heap.size,2,none⟩=some (.int .u8 r.J)∧t.cell? ⟨wr.heap.size,3,none⟩=some (.int .u8 r.lo.tag)∧t.cell? ⟨wr.heap.size,4,none⟩=some (.int .u32 r.lo.to)∧t.cell? ⟨wr.heap.size,5,none⟩=some (.int .u8 r.hi.tag)∧t.cell? ⟨wr.heap.size,6,none⟩=some (.int .u32 r.hi.to)∧t.cell? ⟨wr.heap.size,7,none⟩=some (.int .u32 id)∧t.cell? ⟨wr.heap.size,8,none⟩=some (.bool true))) (go_keep) ((first|(go_at_call 200;refine(H.out _ (by(exact kp))).mono ?_;rintro e s ⟨rfl,j⟩;have A:aa (wr.alloc (.cells #[.int .u8 r.ad,.int .u8 r.I,.int .u8 r.J,.int .u8 r.lo.tag,.int .u32 r.lo.to,.int .u8 r.hi.tag,.int .u32 r.hi.to,.int .u32 id,.bool true] 274)) s:=(by(exact kp));have z:aa wr s:=(((aa.refl _).alloc _).trans A);have j:=z.cell S;have j:s.cell? ⟨wr.heap.size,0,none⟩=some (.int .u8 r.ad):=A.cell (by simp);have j:s.cell? ⟨wr.heap.size,1,none⟩=some (.int .u8 r.I):=A.cell (by simp);have j:s.cell? ⟨wr.heap.size,2,none⟩=some (.int .u8 r.J):=A.cell (by simp);have j:s.cell? ⟨wr.heap.size,3,none⟩=some (.int .u8 r.lo.tag):=A.cell (by simp);have j:s.cell? ⟨wr.heap.size,4,none⟩=some (.int .u32 r.lo.to):=A.cell (by simp);have j:s.cell? ⟨wr.heap.size,5,none⟩=some (.int .u8 r.hi.tag):=A.cell (by simp);have j:s.cell? ⟨wr.heap.size,6,none⟩=some (.int .u32 r.hi.to):=A.cell (by simp);have j:s.cell? ⟨wr.heap.size,7,none⟩=some (.int .u32 id):=A.cell (by simp);have j:s.cell? ⟨wr.heap.size,8,none⟩=some (.bool true):=A.cell (by simp);have j:s.cell? ⟨w.heap.size,k*9,none⟩=some (.int .u8 0):=z.cell (E.out 0 (by omega));have j:s.cell? ⟨w.heap.size,k*9+1,none⟩=some (.int .u8 0):=z.cell (E.out 1 (by omega));have j:s.cell? ⟨w.heap.size,k*9+2,none⟩=some (.int .u8 0):=z.cell (E.out 2 (by omega));have j:s.cell? ⟨w.heap.size,k*9+3,none⟩=some (.int .u8 0):=z.cell (E.out 3 (by omega));have j:s.cell? ⟨w.heap.size,k*9+4,none⟩=some (.int .u32 0):=z.cell (E.out 4 (by omega));have j:s.cell? ⟨w.heap.size,k*9+5,none⟩=some (.int .u8 0):=z.cell (E.out 5 (by omega));have j:s.cell? ⟨w.heap.size,k*9+6,none⟩=some (.int .u32 0):=z.cell (E.out 6 (by omega));have j:s.cell? ⟨w.heap.size,k*9+7,none⟩=some (.int .u32 0):=z.cell (E.out 7 (by omega));have j:s.cell? ⟨w.heap.size,k*9+8,none⟩=some (.bool false):=z.cell (E.out 8 (by omega));have j:∀K,s.frozen? ⟨w.heap.size,K,none⟩=false:=(fun K=>(Below.frozen (p:=⟨w.heap.size,K,none⟩) z ca).trans (b2 K)))))
    go_wp2
    go_roundg (gk-1)
    case rel=>exact⟨i+1,J.set k (some (r,id)),by have:=Y.out;omega,by go_num,I.step z L.out a'.out av.out k be.out⟩
    case measure=>omega

structure fS (w:World)(ib tb cap:Nat)(ts:ah)(n:Int)(k:Nat)(r:Rec)(id:Int)(W:World):Prop where
 heap:W.heap[ib]?=some (.cells #[.slice (some ⟨tb,0,none⟩) ts.length cap,.int .i64 (n+1)] 255 (0,0))
 row:W.ownsRow 0 274 9 (.slice (some ⟨tb,0,none⟩) ts.length cap) ts.length ((ts.set k (some (r,id))).flatMap aQ)
 av:ae (fun x=>x=ib∨x=tb) w W

theorem fS.U {w:World}{ib s cap:Nat}{ts:ah}{n:Int}{k:Nat}{r:Rec}{id:Int}{q W':World}(h:fS w ib s cap ts n k r id q)(j:aa q W'):fS w ib s cap ts n k r id W':=
 ⟨j.heap h.heap,j.bq h.row,h.av.a' (j.av _)⟩

theorem fS.hg {w w1:World}{ib j cap:Nat}{ts:ah}{n:Int}(s:w.heap[ib]?=some (.cells #[.slice (some ⟨j,0,none⟩) ts.length cap,.int .i64 n] 255 (0,0)))
  (t:w.ownsRow 0 274 9 (.slice (some ⟨j,0,none⟩) ts.length cap) ts.length (ts.flatMap aQ)) (q:aa w w1) {k:Nat} (I:k<ts.length) (r:Rec) (id:Int) :
  fS w ib j cap ts n k r id ((cU w1 j (k*9) (aQ (some (r,id)))).setCell ⟨ib,1,none⟩ (.int .i64 (n+1))):=by
 obtain⟨L,E⟩:=bJ t (k:=j) rfl
 have J:j≠ib:=dm E s (by decide)
 have z:=iw j (aQ (some (r,id))) (k*9) w1
 have A:=ja aQ dT rfl (q.bq t) k I (some (r,id))
 have t:=(z.block ib (Nat.lt_of_lt_of_le (aK s) q.size) (fun e=>J e.symm)).trans (q.heap s)
 refine⟨heap_setCell_same _ ib 1 _ _ _ t,?_,?_⟩
 ·exact ae.bq (F:=fun x=>x=ib) (ae.setCell (F:=fun x=>x=ib) (p:=⟨ib,1,none⟩) (ae.refl _ _) (Or.inl rfl) _) (fun x K=>by simp[Value.ownBlock]at K;omega) A
 ·exact ae.setCell (F:=fun x=>x=ib∨x=j) (p:=⟨ib,1,none⟩) ((q.av _).a' (z.mono (fun x _ e=>.inr e))) (Or.inl (.inl rfl)) _

theorem vT {w:World}{ib j cap:Nat}{ts:ah}{n:Int}(z:w.heap[ib]?=some (.cells #[.slice (some ⟨j,0,none⟩) ts.length cap,.int .i64 n] 255 (0,0)))
  (A:w.ownsRow 0 274 9 (.slice (some ⟨j,0,none⟩) ts.length cap) ts.length (ts.flatMap aQ)) (a4:ts.length≤4194304) (a5:0≤n) (a6:n≤1048576) (k:Nat) (a1:k<ts.length) (r:Rec) (id:Int) (S:ts[k]?=some none)
  (R:World→World→Prop) (N:∀q,fS w ib j cap ts n k r id q→2*(n+1)≤(ts.length:Int)→R q q)
  (L:∀q,fS w ib j cap ts n k r id q→(ts.length:Int)<2*(n+1)→Calls Tryz.prog 203 #[.pointer (some ⟨ib,0,none⟩)] q fun e E=>e=.returned (.tuple #[])∧R q E)
  (O:∀q,aa w q→Calls Tryz.prog 200 #[.pointer (some ⟨ib,0,none⟩),.agg #[.int .u8 r.ad,.int .u8 r.I,.int .u8 r.J,.int .u8 r.lo.tag,.int .u32 r.lo.to,.int .u8 r.hi.tag,.int .u32 r.hi.to]] q fun e E=>e=.returned (.int .i64 (k:Int))∧aa q E) :
  Calls Tryz.prog 138 #[.pointer (some ⟨ib,0,none⟩),.agg #[.int .u8 r.ad,.int .u8 r.I,.int .u8 r.J,.int .u8 r.lo.tag,.int .u32 r.lo.to,.int .u8 r.hi.tag,.int .u32 r.hi.to],.int .u32 id] w fun e E=>e=.returned (.tuple #[.int .u32 0,.bool false])∧∃q,fS w ib j cap ts n k r id q∧R q E:=by
 have Y:w.cell? ⟨ib,0,none⟩=some (.slice (some ⟨j,0,none⟩) ts.length cap):=by rw[cell_of_row w ib 0 _ _ _ z];rfl
 have Z:w.cell? ⟨ib,1,none⟩=some (.int .i64 n):=by rw[cell_of_row w ib 1 _ _ _ z];rfl
 have ab:w.frozen? ⟨ib,1,none⟩=false:=frozen_of_row w ib 1 _ _ z
 have aw:=aK z
 obtain⟨q,J⟩:=bJ A (k:=j) rfl
 have a3:=aK J
 have q:ib≠j:=dm z J (by decide)
 have E:j≠ib:=q.symm
 have am:∀s,w.frozen? ⟨j,s,none⟩=false:=fun s=>A.frozenAt s
 have q:=fun s (E:s<9)=>(A.cellAt (k*9+s) (by omega)).trans (ef aQ 9 dT ts k s none S E)
 have E:(k:Int)<(ts.length:Int):=by omega
 have U:=Lib.hid z
 have X:=Lib.hid A
 have t:=Lib.hid q
 have H:=Lib.hid O
 have W:=Lib.hid N
 have T:=Lib.hid L
 clear J z A q S O N L
 go_enter Tryz.func138,Tryz.ntmps138
 go_wp2_with (first|(go_at_call 200;refine(H.out _ (by(exact kp))).mono ?_;rintro e w1 ⟨rfl,ad⟩;obtain⟨q,z,A,E,J,L,N⟩:=fI (w:=w) (w1:=w1) (show aa (w.alloc (.cells #[.int .u8 r.ad,.int .u8 r.I,.int .u8 r.J,.int .u8 r.lo.tag,.int .u32 r.lo.to,.int .u8 r.hi.tag,.int .u32 r.hi.to] 199)) w1 by(exact kp));have q:aa w w1:=(((aa.refl _).alloc _).trans ad);have z:=q.cell Y;have z:=q.cell Z;have z:=(Below.frozen (p:=⟨ib,1,none⟩) q aw).trans ab;have z:∀s,w1.frozen? ⟨j,s,none⟩=false:=(fun s=>(Below.frozen (p:=⟨j,s,none⟩) q a3).trans (am s));have s:w1.cell? ⟨j,k*9,none⟩=some (.int .u8 0):=q.cell (t.out 0 (by omega));have s:w1.cell? ⟨j,k*9+1,none⟩=some (.int .u8 0):=q.cell (t.out 1 (by omega));have s:w1.cell? ⟨j,k*9+2,none⟩=some (.int .u8 0):=q.cell (t.out 2 (by omega));have s:w1.cell? ⟨j,k*9+3,none⟩=some (.int .u8 0):=q.cell (t.out 3 (by omega));have s:w1.cell? ⟨j,k*9+4,none⟩=some (.int .u32 0):=q.cell (t.out 4 (by omega));have s:w1.cell? ⟨j,k*9+5,none⟩=some (.int .u8 0):=q.cell (t.out 5 (by omega));have s:w1.cell? ⟨j,k*9+6,none⟩=some (.int .u32 0):=q.cell (t.out 6 (by omega));have s:w1.cell? ⟨j,k*9+7,none⟩=some (.int .u32 0):=q.cell (t.out 7 (by omega));have s:w1.cell? ⟨j,k*9+8,none⟩=some (.bool false):=q.cell (t.out 8 (by omega)))|fail)
 have K:=fS.hg (n:=n) U.out X.out q a1 r id
 simp only[cU,aQ,fy,List.cons_append,List.nil_append]at K
 have I:=Lib.hid K
 clear K
 have q:w.heap.size≠j:=by omega
 have j:w.heap.size≠ib:=by omega
 go_region
 go_wp2
 by_cases av:(ts.length:Int)<2*(n+1)
 ·go_quiet (fail)
  go_wp2_with (first|(go_at_call 203;refine(T.out _ (I.out.U (by(exact kp))) av).mono ?_;rintro e j ⟨rfl,a2⟩)|fail)
  go_ret2
  exact⟨rfl,_,I.out.U (by(exact kp)),a2⟩
 ·go_quiet (fail)
  go_wp2
  go_ret2
  exact⟨rfl,_,I.out.U (by(exact kp)),W.out _ (I.out.U (by(exact kp))) (by omega)⟩

theorem vL {F:Nat→Prop}{w:World}{ib:Nat}{ts:ah}{n:Int}(h:cO F w ib ts n)(bs:n=(occ ts:Int))(bt:occ ts<1048576)(r:Rec)(a2:r.ok)(id:Int)(bg:0≤id)(bi:id≤4294967295)(bp:∀j,¬ah.has ts r j) :
  Calls Tryz.prog 138 #[.pointer (some ⟨ib,0,none⟩),.agg #[.int .u8 r.ad,.int .u8 r.I,.int .u8 r.J,.int .u8 r.lo.tag,.int .u32 r.lo.to,.int .u8 r.hi.tag,.int .u32 r.hi.to],.int .u32 id] w fun e A=>e=.returned (.tuple #[.int .u32 0,.bool false])∧ae F w A ∧
   ∃am,cO (ao F w A) A ib am (n+1)∧n+1=(occ am:Int)∧∀s j,ah.has am s j↔(s=r∧j=id)∨ah.has ts s j:=by
 obtain⟨D,W⟩:=kg (H:=aT) r h.room
 obtain⟨k,L⟩:∃k:Nat,k=(aT r ts.length+D)%ts.length:=⟨_,rfl⟩
 have be:∀q,aa w q→Calls Tryz.prog 200 #[.pointer (some ⟨ib,0,none⟩),.agg #[.int .u8 r.ad,.int .u8 r.I,.int .u8 r.J,.int .u8 r.lo.tag,.int .u32 r.lo.to,.int .u8 r.hi.tag,.int .u32 r.hi.to]] q fun e A=>e=.returned (.int .i64 (k:Int))∧aa q A:=fun q E=>by
  rw[L];exact ko (h.U E) r a2 D W
 have bn:k<ts.length:=by rw[L];exact Nat.mod_lt _ (by have:=W.lt;omega)
 have J:ts[k]?=some none:=by
  rcases W.stop with J|⟨j,J⟩;·rw[L];exact J
  ·exact(bp j ⟨_,J⟩).elim
 obtain⟨Y,am,U⟩:=h.ok.put W (L ▸ J) id
 rw[←L]at Y am U
 obtain⟨⟨ad,cap,a6,a7,av⟩,T,⟨p,X⟩,L,a4,W,am,a5⟩:=h
 have bq:∀x,x=ib∨x=ad→F x:=fun x N=>by rcases N with rfl|rfl;exact T;exact av
 have z:(ts.set k (some (r,id))).length=ts.length:=List.length_set
 have Z:∀s j,ah.has (ts.set k (some (r,id))) s j→s.ok∧0≤j∧j≤4294967295:=fun s j K=>by
  rcases(U s j).1 K with⟨rfl,rfl⟩|K
  ·exact⟨a2,bg,bi⟩
  ·exact a5 s j K
 refine(vT a6 a7 a4 (by omega) (by omega) k bn r id J (fun q A=>(q=A∧2*(n+1)≤(ts.length:Int))∨((ts.length:Int)<2*(n+1)∧∃S,du q ib (ts.set k (some (r,id))) (n+1) ts.length S A)) (fun q E a1=>.inl ⟨rfl,a1⟩) (fun q E aw=>?_) be).mono ?_
 ·refine(vh (F:=F) (w:=q) (ib:=ib) (ts:=ts.set k (some (r,id))) (n:=n+1) ad cap p (by rw[z];exact E.heap) (by rw[z];exact E.row) (by rw[z];exact X) (by omega) (by omega) Y Z).mono ?_;rintro e A ⟨rfl,S,t⟩;rw[z]at t;exact⟨rfl,.inr ⟨aw,S,t⟩⟩
 ·rintro e A ⟨rfl,q,E,a8⟩;have a3:ae F w q:=E.av.mono (fun x _ N=>bq x N);rcases a8 with⟨rfl,a1⟩|⟨aw,S,t⟩
  ·refine⟨rfl,a3,ts.set k (some (r,id)),⟨⟨ad,cap,by rw[z];exact E.heap,by rw[z];exact E.row,.inl av⟩,.inl T,⟨p,by rw[z];exact X⟩,by omega,by omega,by omega,Y,Z⟩,by omega,U⟩
  ·have J:=t.gh;have ab:=t.len;rw[List.take_of_length_le (by omega)]at J
   have a':q.heap.size<A.heap.size:=by
    obtain⟨A,bb⟩:=bJ t.row (k:=q.heap.size) rfl;exact aK bb
   have br:=E.av.size;refine⟨rfl,a3.a' (t.av.mono (fun x _ N=>by subst N;exact T)),S,⟨⟨q.heap.size,2*ts.length,?_,?_,.inr ⟨br,a'⟩⟩,.inl T,⟨p+1,by rw[ab,z,X,Nat.pow_succ];omega⟩,by omega,by omega,by omega,t.ok,?_⟩,by omega,?_⟩
   ·rw[ab,z];have:=t.heap;rw[z]at this;exact this
   ·rw[ab,z];have:=t.row;rw[z]at this;exact this
   ·intro s j K;obtain⟨O,_,I⟩:=(t.has s j).1 K;exact Z s j ⟨O,I⟩
   ·intro s j;rw[←U s j,t.has s j];constructor
    ·rintro⟨O,_,I⟩;exact⟨O,I⟩
    ·rintro⟨O,I⟩;exact⟨O,by have:=(List.getElem?_eq_some_iff.1 I).1;omega,I⟩

theorem vK (w:World) :
  Calls Tryz.prog 117 #[] w fun e s=>∃ib,e=.returned (.pointer (some ⟨ib,0,none⟩))∧w.heap.size≤ib∧aa w s∧cO (fun k=>w.heap.size≤k∧k<s.heap.size) s ib (List.replicate 8 none) 0:=by
 obtain⟨N,hi,J,K,L⟩:=info_parts o9
 go_enter Tryz.func117,Tryz.ntmps117
 go_wp2_with (at_make;refine wpList_make_full _ rfl _ _ 253 rfl w.heap.size 274 N _ 9 Tryz.underlying253 hi J K .i64 .i64 8 8 8 rfl rfl (by omega) (by omega) (by rw[L];omega) (by unfold maxLen;omega) (Nat.le_refl _) ?_;intro w1 q I)
 go_ret
 rw[pD]at q
 have j:aa w w1:=ae.U (F:=fun _=>False) ((ae.refl _ w).ca I (fun k j=>by simp at j)) (fun _ _ h=>h)
 obtain⟨s,E⟩:=bJ q (k:=w.heap.size) rfl
 have s:=aK E
 obtain⟨t,z,A⟩:=dD.empty aT 8
 refine⟨w1.heap.size,rfl,j.size,j.alloc _,⟨⟨w.heap.size,8,?_,?_,?_⟩,?_,⟨3,rfl⟩,by simp,by simp,by rw[z];simp,t,fun r id h=>(A r id h).elim⟩⟩
 ·exact heap_alloc_new w1 _
 ·exact pW (q.alloc _) (Nat.zero_le _)
 ·simp;omega
 ·have:=j.size;simp;omega

end Go.Proofs.YtafkamlhimkbmaaGreat
