/-
  Walks of package index.
-/
import Derived.Test.YtafkamlhimkbmaaGreatPFindA
import Derived.Deep.LoopGhost
namespace Go.Proofs.YtafkamlhimkbmaaGreat
set_option maxRecDepth 1000000
set_option maxHeartbeats 8000000
set_option linter.unusedSimpArgs false
set_option linter.unusedVariables false
open Go.RowKit

def ig (r:Rec):Int:=
 bits BinOp.xor IntKind.u64 (IntKind.u64.wrap (mv r*11400714819323198485)) (IntKind.u64.wrap (mv r*11400714819323198485) / 4294967296)

def aX (r:Rec)(len:Nat):Nat:=(ig r).toNat%len

theorem vX (r:Rec):0≤ig r∧ig r<18446744073709551616:=by
 unfold ig bits;simp only[IntKind.wrap_u64];omega

theorem vY (r:Rec)(p len:Nat)(q:len=2 ^ p)(t:len≤4194304):bits BinOp.and IntKind.u64 (ig r) ((len:Int)-1)=(aX r len:Int):=by
 obtain⟨j,s⟩:=vX r
 have t:p≤22:=by
  rcases Nat.lt_or_ge 22 p with h|h
  ·have:=Nat.pow_lt_pow_right (a:=2) (by decide) h;omega
  ·exact h
 have h:=bits_mask .u64 64 (by decide) (fun n j s=>by rw[IntKind.wrap_u64];omega) p (by omega) (ig r) j (by omega);have e:(len:Int)=2 ^ p:=by rw[q];simp
 rw[e,h,aX,q];rw[Int.natCast_emod,Int.toNat_of_nonneg j];simp

theorem xX (i p len:Nat)(j:len=2 ^ p)(q:len≤4194304)(hi:i<len):bits BinOp.and IntKind.i64 ((i:Int)+1) ((len:Int)-1)=(((i+1)%len:Nat):Int):=by
 have q:p≤22:=by
  rcases Nat.lt_or_ge 22 p with h|h
  ·have:=Nat.pow_lt_pow_right (a:=2) (by decide) h;omega
  ·exact h
 have h:=bits_mask .i64 63 (by decide) (fun n q q=>by rw[IntKind.wrap_i64];omega) p (by omega) ((i:Int)+1) (by omega) (by omega);have e:(len:Int)=2 ^ p:=by rw[j];simp
 rw[e,h,j];simp

theorem xT (a b c d e f g : Value) (w : World) : (method 454 199 (.agg #[a, b, c, d, e, f, g]) "Hash").run Tryz.prog w = .ok (292, .agg #[a, b, c, d, e, f, g]) w := by kernel_rfl

theorem pt (ib J len cap p:Nat)(r:Rec)(E:r.ok)(w:World)(t:w.cell? ⟨ib,0,none⟩=some (.slice (some ⟨J,0,none⟩) len cap))(K:8≤len)(z:len≤4194304)(s:len=2 ^ p) :
  Calls Tryz.prog 211 #[.pointer (some ⟨ib,0,none⟩),.agg #[.int .u8 r.ad,.int .u8 r.I,.int .u8 r.J,.int .u8 r.lo.tag,.int .u32 r.lo.to,.int .u8 r.hi.tag,.int .u32 r.hi.to]] w fun e w'=>
   e=.returned (.int .i64 (aX r len:Int))∧aa w w':=by
 have J:ib<w.heap.size:=aD t
 have A:=vY r p len s z
 have t:aX r len<len:=Nat.mod_lt _ (by omega)
 unfold ig at A
 have t:=xT
 clear s
 go_enter Tryz.func211,Tryz.ntmps211
 go_wp2_with (first|(go_at_call 292;refine(vV _ E _).mono ?_;rintro e w1 ⟨rfl,j⟩;have q:aa w w1:=(by(exact kp));obtain⟨s,t⟩:=j.cells;obtain⟨s,t⟩:=q.cells;have I:=j.size;(try simp only[World.size_alloc,World.c5,World.a3,World.size_setCell]at I);have j:=q.size;have j:w.heap.size<w1.heap.size:=(by omega))|fail)
 go_ret
 exact⟨rfl,by(exact kp)⟩

theorem kR (ib s len cap i p:Nat)(w:World)(t:w.cell? ⟨ib,0,none⟩=some (.slice (some ⟨s,0,none⟩) len cap))(z:8≤len)(q:len≤4194304)(hi:i<len)(j:len=2 ^ p) :
  Calls Tryz.prog 210 #[.pointer (some ⟨ib,0,none⟩),.int .i64 i] w fun e w'=>
   e=.returned (.int .i64 (((i+1)%len:Nat):Int))∧w=w':=by
 have s:=xX i p len j q hi
 clear j
 go_enter Tryz.func210,Tryz.ntmps210
 go_wp2
 go_ret
 exact⟨rfl,rfl⟩

theorem vz (ib K len cap p D:Nat)(r:Rec)(b1:r.ok)(ts:List (Option (Rec×Int)))(w:World)(L:w.cell? ⟨ib,0,none⟩=some (.slice (some ⟨K,0,none⟩) len cap))(a2:8≤len)(a1:len≤4194304)(a6:len=2 ^ p)
  (bg:∀i c,ts[i]?=some c→∀t,t<9→w.cell? ⟨K,i*9+t,none⟩=(aU c)[t]?) (be:ts.length=len)
  (b2:D<len) (a4:∀d,d<D→∃q id,ts[(aX r len+d)%len]?=some (some (q,id))∧q≠r)
  (a':ts[(aX r len+D)%len]?=some none∨∃id,ts[(aX r len+D)%len]?=some (some (r,id))) :
  Calls Tryz.prog 200 #[.pointer (some ⟨ib,0,none⟩),.agg #[.int .u8 r.ad,.int .u8 r.I,.int .u8 r.J,.int .u8 r.lo.tag,.int .u32 r.lo.to,.int .u8 r.hi.tag,.int .u32 r.hi.to]] w fun e w'=>
   e=.returned (.int .i64 (((aX r len+D)%len:Nat):Int))∧aa w w':=by
 have bx:ib<w.heap.size:=aD L
 have a7:=Lib.hid a6
 have b2:=Lib.hid be
 clear a6 be
 have S:=Lib.hid bg
 have bn:=Lib.hid a4
 have bq:=Lib.hid a'
 clear bg a4 a'
 go_enter Tryz.func200,Tryz.ntmps200
 go_wp2_with (first|(go_at_call 211;refine(pt ib K len cap p r b1 _ (by simp[go_sem,L,bx]) a2 a1 a7.out).mono ?_;rintro e w1 ⟨rfl,U⟩;have z:aa w w1:=(by(exact kp));obtain⟨br,bv⟩:=U.cells;obtain⟨bs,bw⟩:=z.cells;have bb:=U.size;(try simp only[World.size_alloc,World.c5,World.a3,World.size_setCell]at bb);have a4:=z.size;have a6:w.heap.size<w1.heap.size:=(by omega))|fail)
 have a':aa (w.alloc (.cells #[.int .u8 r.ad,.int .u8 r.I,.int .u8 r.J,.int .u8 r.lo.tag,.int .u32 r.lo.to,.int .u8 r.hi.tag,.int .u32 r.hi.to] 199)) w1:=U
 have U:=fQ a'
 have O:=z.cell L
 clear br bv bs bw bb a4 a6
 have bi:=Lib.hid U
 have bp:=Lib.hid O
 clear U O L
 go_loopg [5] D (fun gk i wr=>∃d k:Nat,d+gk=D∧Hid (k=(aX r len+d)%len)∧k<len∧i=.int .i64 (k:Int)∧aa w1 wr)
 case atStart=>exact⟨0,aX r len,by omega,(by show _=_;rw[Nat.add_zero,Nat.mod_eq_of_lt];unfold aX;exact Nat.mod_lt _ (by omega)),(by unfold aX;exact Nat.mod_lt _ (by omega)),rfl,aa.refl _⟩
 case round=>
  obtain⟨d,k,N,A,b0,rfl,J⟩:=hrel;obtain⟨L,U,a4,a6,a',bb,be⟩:=J.e4 bi.out;have O:=J.cell bp.out;have L:(k:Int)<(len:Int):=by omega
  by_cases W:gk=0
  ·subst W;rcases bq.out with E|⟨id,E⟩
   ·have a8:=(J.cell (z.cell ((S.out _ _ E 8 (by omega)).trans rfl)));have s:d=D:=(by omega);have L:wr.cell? ⟨K,k*9+8,none⟩=some (.bool false):=(by rw[A.out,s];exact a8);have s:=Lib.hid s;clear a8 N;go_wp2_with fail
    go_quiet (fail)
    go_wp2
    go_ret
    have T:k=(aX r len+D)%len:=(by rw[A.out,s.out]);refine⟨?_,by(exact kp)⟩;rw[←T];rfl
   ·have j:=fun t I=>J.cell (z.cell ((S.out _ _ E t I).trans (List.getElem?_eq_getElem (by rw[dZ];exact I))));have s:d=D:=(by omega);rw[←s,←A.out]at j;have X:=j 0 (by omega);have Y:=j 1 (by omega);have Z:=j 2 (by omega);have ab:=j 3 (by omega);have ad:=j 4 (by omega);have am:=j 5 (by omega);have av:=j 6 (by omega);have aw:=j 8 (by omega);simp[aU,fI]at X Y Z ab ad am av aw;have s:=Lib.hid s;clear j N;go_wp2_with fail
    go_quiet (fail)
    go_wp2
    go_ret
    have T:k=(aX r len+D)%len:=(by rw[A.out,s.out]);refine⟨?_,by(exact kp)⟩;rw[←T];rfl
  ·obtain⟨q,id,E,a5⟩:=bn.out d (by omega);have j:=fun t I=>J.cell (z.cell ((S.out _ _ E t I).trans (List.getElem?_eq_getElem (by rw[dZ];exact I))));rw[←A.out]at j;have X:=j 0 (by omega);have Y:=j 1 (by omega);have Z:=j 2 (by omega);have ab:=j 3 (by omega);have ad:=j 4 (by omega);have am:=j 5 (by omega);have av:=j 6 (by omega);have aw:=j 8 (by omega);simp[aU,fI]at X Y Z ab ad am av aw;have s:∀s,(binOp .neq 199 (.agg #[.int .u8 q.ad,.int .u8 q.I,.int .u8 q.J,.int .u8 q.lo.tag,.int .u32 q.lo.to,.int .u8 q.hi.tag,.int .u32 q.hi.to]) (.agg #[.int .u8 r.ad,.int .u8 r.I,.int .u8 r.J,.int .u8 r.lo.tag,.int .u32 r.lo.to,.int .u8 r.hi.tag,.int .u32 r.hi.to])).run Tryz.prog s=.ok (.bool true) s:=fun s=>(by rw[zK];simp[a5]);have bt:=Lib.hid N;have a3:=Lib.hid W;clear j E a5 N W;go_wp2_with fail
   go_quiet (fail)
   go_wp2_with (first|(go_at_call 210;refine(kR ib K len cap k p _ (by simpa using O) a2 a1 b0 a7.out).mono ?_;rintro e j ⟨rfl,rfl⟩)|fail)
   go_roundg (gk-1)
   case rel=>exact⟨d+1,(k+1)%len,by have:=bt.out;have:=a3.out;omega,(by show _=_;rw[A.out];simp[Nat.add_assoc,Nat.mod_add_mod]),Nat.mod_lt _ (by omega),rfl,by(exact kp)⟩
   case measure=>have:=a3.out;omega

structure cQ (F:Nat→Prop)(w:World)(ib:Nat)(ts:ah)(n:Int):Prop where
 h0:∃tb cap,w.heap[ib]?=some (.cells #[.slice (some ⟨tb,0,none⟩) ts.length cap,.int .i64 n] 255 (0,0)) ∧
  w.ownsRow 0 274 9 (.slice (some ⟨tb,0,none⟩) ts.length cap) ts.length (ts.flatMap aU)∧F tb
 own:F ib
 hQ:∃p,ts.length=2 ^ p
 eb:8≤ts.length
 hs:ts.length≤4194304
 hJ:2*occ ts≤ts.length
 ok:dI aX ts
 b1:∀r id,ah.has ts r id→r.ok∧0≤id∧id≤4294967295

theorem wm (ib j len cap k:Nat)(r x:Rec)(id:Int)(b:Bool)(w:World)(E:w.cell? ⟨ib,0,none⟩=some (.slice (some ⟨j,0,none⟩) len cap))(W:len≤4194304)(s:k<len)
  (A:w.cell? ⟨j,k*9,none⟩=some (.int .u8 x.ad)) (J:w.cell? ⟨j,k*9+1,none⟩=some (.int .u8 x.I)) (K:w.cell? ⟨j,k*9+2,none⟩=some (.int .u8 x.J))
  (L:w.cell? ⟨j,k*9+3,none⟩=some (.int .u8 x.lo.tag)) (N:w.cell? ⟨j,k*9+4,none⟩=some (.int .u32 x.lo.to)) (O:w.cell? ⟨j,k*9+5,none⟩=some (.int .u8 x.hi.tag))
  (S:w.cell? ⟨j,k*9+6,none⟩=some (.int .u32 x.hi.to)) (T:w.cell? ⟨j,k*9+7,none⟩=some (.int .u32 id)) (U:w.cell? ⟨j,k*9+8,none⟩=some (.bool b))
  (z:∀q,aa w q→Calls Tryz.prog 200 #[.pointer (some ⟨ib,0,none⟩),.agg #[.int .u8 r.ad,.int .u8 r.I,.int .u8 r.J,.int .u8 r.lo.tag,.int .u32 r.lo.to,.int .u8 r.hi.tag,.int .u32 r.hi.to]] q fun e w'=>
    e=.returned (.int .i64 (k:Int))∧aa q w') :
  Calls Tryz.prog 135 #[.pointer (some ⟨ib,0,none⟩),.agg #[.int .u8 r.ad,.int .u8 r.I,.int .u8 r.J,.int .u8 r.lo.tag,.int .u32 r.lo.to,.int .u8 r.hi.tag,.int .u32 r.hi.to]] w fun e w'=>
   e=.returned (.tuple #[.int .u32 (if b then id else 0),.bool b])∧aa w w':=by
 have q:ib<w.heap.size:=aD E
 have q:j<w.heap.size:=aD A
 have q:(k:Int)<(len:Int):=by omega
 have q:w.heap.size+1≠ib:=by omega
 have q:w.heap.size+1≠j:=by omega
 have H:=Lib.hid z
 clear z
 go_enter Tryz.func135,Tryz.ntmps135
 go_wp2
 go_region_held3 (fun w'=>w'.cell? ⟨ib,0,none⟩=some (.slice (some ⟨j,0,none⟩) len cap)∧(w'.cell? ⟨w.heap.size,0,none⟩=some (.int .u8 r.ad)∧w'.cell? ⟨w.heap.size,1,none⟩=some (.int .u8 r.I)∧w'.cell? ⟨w.heap.size,2,none⟩=some (.int .u8 r.J)∧w'.cell? ⟨w.heap.size,3,none⟩=some (.int .u8 r.lo.tag)∧w'.cell? ⟨w.heap.size,4,none⟩=some (.int .u32 r.lo.to)∧w'.cell? ⟨w.heap.size,5,none⟩=some (.int .u8 r.hi.tag)∧w'.cell? ⟨w.heap.size,6,none⟩=some (.int .u32 r.hi.to))∧(w'.cell? ⟨j,k*9,none⟩=some (.int .u8 x.ad)∧w'.cell? ⟨j,k*9+1,none⟩=some (.int .u8 x.I)∧w'.cell? ⟨j,k*9+2,none⟩=some (.int .u8 x.J)∧w'.cell? ⟨j,k*9+3,none⟩=some (.int .u8 x.lo.tag)∧w'.cell? ⟨j,k*9+4,none⟩=some (.int .u32 x.lo.to)∧w'.cell? ⟨j,k*9+5,none⟩=some (.int .u8 x.hi.tag)∧w'.cell? ⟨j,k*9+6,none⟩=some (.int .u32 x.hi.to)∧w'.cell? ⟨j,k*9+7,none⟩=some (.int .u32 id)∧w'.cell? ⟨j,k*9+8,none⟩=some (.bool b))) (go_keep) ((first|(go_at_call 200;refine(H.out _ (by(exact kp))).mono ?_;rintro e w1 ⟨rfl,t⟩;obtain⟨q,z,A,E,J,K,L⟩:=fQ (w:=w) (w1:=w1) (show aa (w.alloc (.cells #[.int .u8 r.ad,.int .u8 r.I,.int .u8 r.J,.int .u8 r.lo.tag,.int .u32 r.lo.to,.int .u8 r.hi.tag,.int .u32 r.hi.to] 199)) w1 by(exact kp));have s:aa w w1:=(by(exact kp));obtain⟨q,z⟩:=t.cells;obtain⟨q,z⟩:=s.cells;have I:=t.size;(try simp only[World.size_alloc,World.c5,World.a3,World.size_setCell]at I);have q:=s.size;have q:w.heap.size<w1.heap.size:=(by omega);have q:w1.heap.size≠ib:=(by omega);have q:w1.heap.size≠j:=(by omega);have j:w1.heap.size≠w.heap.size:=(by omega))))
 all_goals cases b
 all_goals(go_wp2;go_ret2;exact⟨rfl,by(exact kp)⟩)

theorem cQ.open {F:Nat→Prop}{w:World}{ib:Nat}{ts:ah}{n:Int}(h:cQ F w ib ts n) :
  ∃q cap,w.cell? ⟨ib,0,none⟩=some (.slice (some ⟨q,0,none⟩) ts.length cap)∧w.cell? ⟨ib,1,none⟩=some (.int .i64 n)∧F q∧ib≠q ∧
   (∀i c,ts[i]?=some c→∀j,j<9→w.cell? ⟨q,i*9+j,none⟩=(aU c)[j]?)∧(∀j,w.frozen? ⟨q,j,none⟩=false)∧(∀j,w.frozen? ⟨ib,j,none⟩=false):=by
 obtain⟨⟨q,cap,s,t,A⟩,_⟩:=h
 obtain⟨z,E⟩:=bM t (k:=q) rfl
 refine⟨q,cap,by rw[cell_of_row w ib 0 _ _ _ s];rfl,by rw[cell_of_row w ib 1 _ _ _ s];rfl,A,(dq E s (by decide)).symm,fun i c z j I=>?_,fun j=>t.frozenAt j,fun j=>frozen_of_row w ib j _ _ s⟩
 have hi:=(List.getElem?_eq_some_iff.1 z).1
 rw[t.cellAt (i*9+j) (by omega)]
 exact eA aU 9 dZ ts i j c z I

theorem cQ.a5 {F G:Nat→Prop}{w j:World}{ib:Nat}{ts:ah}{n:Int}(h:cQ F w ib ts n)(A:ae G w j)(t:∀k,F k→¬G k):cQ F j ib ts n:=by
 obtain⟨⟨S,cap,j,O,s⟩,q,E,I,J,K,L,N⟩:=h;exact⟨⟨S,cap,(A.block ib (aN j) (t _ q)).trans j,A.br (fun k z=>by simp[Value.ownBlock]at z;subst z;exact t _ s) O,s⟩,q,E,I,J,K,L,N⟩

theorem cQ.U {F:Nat→Prop}{w j:World}{ib:Nat}{ts:ah}{n:Int}(h:cQ F w ib ts n)(q:aa w j):cQ F j ib ts n:=
 h.a5 (q.av (fun _=>False)) (fun _ _ h=>h)

theorem cQ.room {F:Nat→Prop}{w:World}{ib:Nat}{ts:ah}{n:Int}(h:cQ F w ib ts n):∃e:Nat,ts[e]?=some none:=
 qo (by have:=h.hJ;have:=h.eb;omega)

theorem kB {F:Nat→Prop}{w:World}{ib:Nat}{ts:ah}{n:Int}(h:cQ F w ib ts n)(r:Rec)(t:r.ok)(D:Nat)(j:Ends aX ts r D) :
  Calls Tryz.prog 200 #[.pointer (some ⟨ib,0,none⟩),.agg #[.int .u8 r.ad,.int .u8 r.I,.int .u8 r.J,.int .u8 r.lo.tag,.int .u32 r.lo.to,.int .u8 r.hi.tag,.int .u32 r.hi.to]] w fun e w'=>e=.returned (.int .i64 (((aX r ts.length+D)%ts.length:Nat):Int))∧aa w w':=by
 obtain⟨p,s⟩:=h.hQ
 obtain⟨A,cap,q,E,_,_,z,_⟩:=h.open
 exact vz ib A ts.length cap p D r t ts w q h.eb h.hs s z rfl j.lt j.go j.stop

theorem pE {F:Nat→Prop}{w:World}{ib:Nat}{ts:ah}{n:Int}(h:cQ F w ib ts n)(r x:Rec)(k:Nat)(c:Option (Rec×Int))(id:Int)(b:Bool)(s:ts[k]?=some c)(z:aU c=fI x++[.int .u32 id,.bool b])
  (O:∀j,aa w j→Calls Tryz.prog 200 #[.pointer (some ⟨ib,0,none⟩),.agg #[.int .u8 r.ad,.int .u8 r.I,.int .u8 r.J,.int .u8 r.lo.tag,.int .u32 r.lo.to,.int .u8 r.hi.tag,.int .u32 r.hi.to]] j fun e w'=>e=.returned (.int .i64 (k:Int))∧aa j w') :
  Calls Tryz.prog 135 #[.pointer (some ⟨ib,0,none⟩),.agg #[.int .u8 r.ad,.int .u8 r.I,.int .u8 r.J,.int .u8 r.lo.tag,.int .u32 r.lo.to,.int .u8 r.hi.tag,.int .u32 r.hi.to]] w fun e w'=>e=.returned (.tuple #[.int .u32 (if b then id else 0),.bool b])∧aa w w':=by
 obtain⟨q,cap,t,A,_,I,j,E,_⟩:=h.open
 have S:=(List.getElem?_eq_some_iff.1 s).1
 have j:=j k c s
 rw[z]at j
 have s:w.cell? ⟨q,k*9,none⟩=some (.int .u8 x.ad):=j 0 (by omega)
 have z:w.cell? ⟨q,k*9+1,none⟩=some (.int .u8 x.I):=j 1 (by omega)
 have A:w.cell? ⟨q,k*9+2,none⟩=some (.int .u8 x.J):=j 2 (by omega)
 have E:w.cell? ⟨q,k*9+3,none⟩=some (.int .u8 x.lo.tag):=j 3 (by omega)
 have I:w.cell? ⟨q,k*9+4,none⟩=some (.int .u32 x.lo.to):=j 4 (by omega)
 have J:w.cell? ⟨q,k*9+5,none⟩=some (.int .u8 x.hi.tag):=j 5 (by omega)
 have K:w.cell? ⟨q,k*9+6,none⟩=some (.int .u32 x.hi.to):=j 6 (by omega)
 have L:w.cell? ⟨q,k*9+7,none⟩=some (.int .u32 id):=j 7 (by omega)
 have N:w.cell? ⟨q,k*9+8,none⟩=some (.bool b):=j 8 (by omega)
 exact wm ib q ts.length cap k r x id b w t h.hs S s z A E I J K L N O

theorem wz {F:Nat→Prop}{w:World}{ib:Nat}{ts:ah}{n:Int}(h:cQ F w ib ts n)(r:Rec)(J:r.ok)(o:Option Int)(E:∀id,ah.has ts r id↔o=some id) :
  Calls Tryz.prog 135 #[.pointer (some ⟨ib,0,none⟩),.agg #[.int .u8 r.ad,.int .u8 r.I,.int .u8 r.J,.int .u8 r.lo.tag,.int .u32 r.lo.to,.int .u8 r.hi.tag,.int .u32 r.hi.to]] w fun e w'=>e=.returned (.tuple #[.int .u32 (o.getD 0),.bool o.isSome])∧aa w w':=by
 obtain⟨D,t⟩:=kt (H:=aX) r h.room
 have A:∀s,aa w s→Calls Tryz.prog 200 #[.pointer (some ⟨ib,0,none⟩),.agg #[.int .u8 r.ad,.int .u8 r.I,.int .u8 r.J,.int .u8 r.lo.tag,.int .u32 r.lo.to,.int .u8 r.hi.tag,.int .u32 r.hi.to]] s fun e w'=>e=.returned (.int .i64 (((aX r ts.length+D)%ts.length:Nat):Int))∧aa s w':=fun s s=>kB (h.U s) r J D t
 rcases t.stop with q|⟨id,q⟩
 ·have z:o=none:=by
   cases I:o with
   |none=>rfl
   |some id=>
    have:=t.ga h.ok ((E id).2 I);rw[q]at this;simp at this
  subst z;exact(pE h r Rec.zero _ none 0 false q rfl A).mono fun e w' j=>⟨j.1,j.2⟩
 ·have z:o=some id:=(E id).1 ⟨_,q⟩;subst z;exact(pE h r r _ (some (r,id)) id true q rfl A).mono fun e w' j=>⟨j.1,j.2⟩

theorem pI:(Tryz.prog.info? 274).map (fun i=>(i.zero,i.size,i.bytes))=some (some (.agg #[.int .u8 0,.int .u8 0,.int .u8 0,.int .u8 0,.int .u32 0,.int .u8 0,.int .u32 0,.int .u32 0,.bool false]),9,28):=by kernel_rfl

theorem qc (n:Nat):(madeCells (Value.agg #[.int .u8 0,.int .u8 0,.int .u8 0,.int .u8 0,.int .u32 0,.int .u8 0,.int .u32 0,.int .u32 0,.bool false]).cells (n*9)).toList=(List.replicate n (none:Option (Rec×Int))).flatMap aU:=by
 apply List.ext_getElem?;intro j;by_cases t:j<n*9
 ·have z:j / 9<n:=by omega
  have s:(List.replicate n (none:Option (Rec×Int)))[j / 9]?=some none:=by simp[z]
  have:=eA aU 9 dZ (List.replicate n none) (j / 9) (j%9) none s (by omega);rw[show j / 9*9+j%9=j by omega]at this;rw[this];have q:j%9<9:=by omega
  simp only[madeCells,Array.getElem?_toList,Array.getElem?_map,Value.cells];rw[Array.getElem?_eq_getElem (by simpa using t)];simp only[Array.getElem_range,Option.map_some];generalize j%9=m at q;match m,q with
  |0,_=>rfl
  |1,_=>rfl
  |2,_=>rfl
  |3,_=>rfl
  |4,_=>rfl
  |5,_=>rfl
  |6,_=>rfl
  |7,_=>rfl
  |8,_=>rfl
 ·rw[List.getElem?_eq_none (by simp[madeCells];omega),List.getElem?_eq_none (by rw[mm aU 9 dZ];simp;omega)]

structure dy (w:World)(ib:Nat)(ts:ah)(n:Int)(i:Nat)(nt:ah)(wr:World):Prop where
 len:nt.length=2*ts.length
 ok:dI aX nt
 has:∀r id,ah.has nt r id↔∃j,j<i∧ah.at ts j r id
 gx:occ nt=occ (ts.take i)
 heap:wr.heap[ib]?=some (.cells #[.slice (some ⟨w.heap.size,0,none⟩) (2*ts.length) (2*ts.length),.int .i64 n] 255 (0,0))
 row:wr.ownsRow 0 274 9 (.slice (some ⟨w.heap.size,0,none⟩) (2*ts.length) (2*ts.length)) (2*ts.length) (nt.flatMap aU)
 av:ae (fun k=>k=ib) w wr

theorem qA {w:World}{b b':Nat}{e:TypeId}{size:Nat}{v:Value}{n:Nat}{xs:List Value}(h:w.ownsRow b e size v n xs)(j:b'≤b):w.ownsRow b' e size v n xs:=by
 refine⟨h.1,?_⟩;rcases h.2 with j|⟨g,cap,q,s,j,t⟩;·exact .inl j
 ·exact .inr ⟨g,cap,q,s,by omega,t⟩

theorem dy.start {w w1:World}{ib:Nat}{ts:ah}{n:Int}{v:Value}(s:w.heap[ib]?=some (.cells #[v,.int .i64 n] 255 (0,0)))
  (t:w1.ownsRow w.heap.size 274 9 (.slice (some ⟨w.heap.size,0,none⟩) (2*ts.length) (2*ts.length)) (2*ts.length) (madeCells (Value.agg #[.int .u8 0,.int .u8 0,.int .u8 0,.int .u8 0,.int .u32 0,.int .u8 0,.int .u32 0,.int .u32 0,.bool false]).cells (2*ts.length*9)).toList)
  (q:w.grownBy w1 none) :
  dy w ib ts n 0 (List.replicate (2*ts.length) none) (w1.setCell ⟨ib,0,none⟩ (.slice (some ⟨w.heap.size,0,none⟩) (2*ts.length) (2*ts.length))):=by
 obtain⟨z,A,E⟩:=dI.empty aX (2*ts.length)
 have J:=aN s
 have I:w1.heap[ib]?=some (.cells #[v,.int .i64 n] 255 (0,0)):=(q.block ib J (by simp)).trans s
 refine⟨by simp,z,fun r id=>⟨fun h=>(E r id h).elim,fun⟨z,s,_⟩=>by omega⟩,by rw[A];simp[occ],?_,?_,?_⟩
 ·exact heap_setCell_same w1 ib 0 _ _ _ I
 ·rw[qc]at t;refine ae.br (F:=fun k=>k=ib) (ae.setCell (F:=fun k=>k=ib) (p:=⟨ib,0,none⟩) (ae.refl _ _) (Or.inl rfl) _) (fun k j=>?_) (qA t (Nat.zero_le _));simp[Value.ownBlock]at j;omega
 ·exact ae.setCell (F:=fun k=>k=ib) (p:=⟨ib,0,none⟩) (ae.cy (ae.refl _ _) q (fun k j=>by simp at j)) (Or.inl rfl) _

theorem dy.skip {w wr s:World}{ib:Nat}{ts t:ah}{n:Int}{i:Nat}(h:dy w ib ts n i t wr)(q:aa wr s)(hi:ts[i]?=some none):dy w ib ts n (i+1) t s:=by
 obtain⟨s,t,z,A,E,I,J⟩:=h;refine⟨s,t,fun r id=>(z r id).trans ⟨fun⟨j,s,h⟩=>⟨j,by omega,h⟩,fun⟨j,s,h⟩=>⟨j,?_,h⟩⟩,?_,q.heap E,q.br I,J.a' (q.av _)⟩
 ·rcases Nat.lt_or_ge j i with q|s;·exact q
  ·have:j=i:=(by omega);subst this;unfold ah.at at h;rw[hi]at h;simp at h
 ·rw[A,List.take_add_one,hi];simp[occ,List.countP_append]

theorem dy.step {w wr E:World}{ib:Nat}{ts s:ah}{n:Int}{i:Nat}(h:dy w ib ts n i s wr)(z:aa wr E){r:Rec}{id:Int}(hi:ts[i]?=some (some (r,id))){D:Nat}
  (K:Ends aX s r D) (a5:dI aX ts) (k:Nat) (A:k=(aX r s.length+D)%s.length) :
  dy w ib ts n (i+1) (s.set k (some (r,id))) (cW E w.heap.size (k*9) (aU (some (r,id)))):=by
 obtain⟨O,ad,I,am,J,S,T⟩:=h
 have Z:k<s.length:=by rw[A];exact Nat.mod_lt _ (by have:=K.lt;omega)
 have a4:s[k]?=some none:=by
  rcases K.stop with L|⟨t,L⟩;·rw[A];exact L
  ·obtain⟨q,Y,j⟩:=(I r t).1 ⟨_,L⟩;have:=a5.c9 q i r t id j hi;omega
 obtain⟨U,W,X⟩:=ad.put K (A ▸ a4) id
 rw[←A]at U W X
 have av:=aN J
 have a2:ib≠w.heap.size:=by
  obtain⟨s,aw⟩:=bM S (k:=w.heap.size) rfl;exact dq J aw (by decide)
 have ab:=iw w.heap.size (aU (some (r,id))) (k*9) E
 refine⟨by rw[List.length_set,O],U,fun N t=>(X N t).trans ⟨?_,?_⟩,?_,?_,?_,?_⟩
 ·rintro(⟨rfl,rfl⟩|a1);·exact⟨i,by omega,hi⟩
  ·obtain⟨q,Y,j⟩:=(I N t).1 a1;exact⟨q,by omega,j⟩
 ·rintro⟨q,Y,j⟩;rcases Nat.lt_or_ge q i with Z|s;·exact .inr ((I N t).2 ⟨q,Z,j⟩)
  ·have:q=i:=(by omega);subst this;unfold ah.at at j;rw[hi]at j;simp at j;exact .inl ⟨j.1.symm,j.2.symm⟩
 ·rw[W,am,List.take_add_one,hi];simp[occ,List.countP_append]
 ·exact(ab.block ib (Nat.lt_of_lt_of_le av z.size) a2).trans (z.heap J)
 ·exact jc aU dZ O (z.br S) k (by omega) (some (r,id))
 ·refine(T.a' (z.av _)).trans ((ab.mono (fun j a3 e=>?_)));subst e;have:=T.size;have:=z.size;exact .inr ⟨Nat.le_refl _,a3⟩

theorem qp (ts:ah)(i:Nat):occ (ts.take i)≤i∧occ (ts.take i)≤ts.length:=by
 have j:occ (ts.take i)≤(ts.take i).length:=List.countP_le_length;have j:(ts.take i).length=min i ts.length:=List.length_take;omega

theorem dy.a4 {w wr:World}{ib:Nat}{ts j:ah}{n:Int}{i:Nat}(h:dy w ib ts n i j wr){p:Nat}(t:ts.length=2 ^ p)(A:8≤ts.length)(z:ts.length≤2097152)
  (q:∀r id,ah.has ts r id→r.ok∧0≤id∧id≤4294967295):cQ (fun _=>True) wr ib j n:=by
 have j:=h.len
 have z:=h.gx
 have z:=qp ts i
 refine⟨⟨w.heap.size,2*ts.length,?_,?_,trivial⟩,trivial,⟨p+1,by rw[j,t,Nat.pow_succ];omega⟩,by omega,by omega,by omega,h.ok,fun r id s=>?_⟩
 ·rw[j];exact h.heap
 ·rw[j];exact h.row
 ·obtain⟨t,_,j⟩:=(h.has r id).1 s;exact q r id ⟨t,j⟩

theorem dy.room {w wr:World}{ib:Nat}{ts j:ah}{n:Int}{i:Nat}(h:dy w ib ts n i j wr)(q:8≤ts.length):∃e:Nat,j[e]?=some none:=by
 have j:=h.len;have j:=h.gx;have j:=qp ts i;exact qo (by omega)

theorem dy.hz {w wr:World}{ib:Nat}{ts q:ah}{n:Int}{i:Nat}(h:dy w ib ts n i q wr)(K:dI aX ts){r:Rec}{id:Int}(hi:ts[i]?=some (some (r,id))){D:Nat}(t:Ends aX q r D){k:Nat}(E:k=(aX r q.length+D)%q.length) :
  k<2*ts.length∧(∀j,j<9→wr.cell? ⟨w.heap.size,k*9+j,none⟩=(aU none)[j]?)∧(∀j,wr.frozen? ⟨w.heap.size,j,none⟩=false)∧w.heap.size<wr.heap.size∧w.heap.size≠ib:=by
 have L:=h.len
 have L:k<q.length:=by rw[E];exact Nat.mod_lt _ (by have:=t.lt;omega)
 have J:q[k]?=some none:=by
  rcases t.stop with s|⟨I,s⟩;·rw[E];exact s
  ·obtain⟨j,A,t⟩:=(h.has r I).1 ⟨_,s⟩;have:=K.c9 j i r I id t hi;omega
 obtain⟨s,z⟩:=bM h.row (k:=w.heap.size) rfl
 exact⟨by omega,fun j A=>(h.row.cellAt (k*9+j) (by omega)).trans (eA aU 9 dZ q k j none J A),fun j=>h.row.frozenAt j,aN z,dq z h.heap (by decide)⟩

theorem vN {F:Nat→Prop}{w:World}{ib:Nat}{ts:ah}{n:Int}(j cap p:Nat)(N:w.heap[ib]?=some (.cells #[.slice (some ⟨j,0,none⟩) ts.length cap,.int .i64 n] 255 (0,0)))
  (a6:w.ownsRow 0 274 9 (.slice (some ⟨j,0,none⟩) ts.length cap) ts.length (ts.flatMap aU)) (a5:ts.length=2 ^ p) (aw:8≤ts.length) (bx:ts.length≤2097152)
  (a3:dI aX ts) (a2:∀r id,ah.has ts r id→r.ok∧0≤id∧id≤4294967295) :
  Calls Tryz.prog 203 #[.pointer (some ⟨ib,0,none⟩)] w fun e w'=>e=.returned (.tuple #[])∧∃I,dy w ib ts n ts.length I w':=by
 have O:w.cell? ⟨ib,0,none⟩=some (.slice (some ⟨j,0,none⟩) ts.length cap):=by rw[cell_of_row w ib 0 _ _ _ N];rfl
 have av:w.frozen? ⟨ib,0,none⟩=false:=frozen_of_row w ib 0 _ _ N
 have b3:=aN N
 obtain⟨ce,hi,ca,cb,cd⟩:=info_parts pI
 have ad:=Lib.hid N
 have a':=Lib.hid a5
 clear N a5
 go_enter Tryz.func203,Tryz.ntmps203
 go_wp2_with (at_make;refine wpList_make_full _ rfl (.tmp 12) (.tmp 12) 253 rfl w.heap.size 274 ce _ 9 Tryz.underlying253 hi ca cb .i64 .i64 (2*(ts.length:Int)) (2*(ts.length:Int)) (2*ts.length) rfl rfl (by omega) (by omega) (by rw[cd];omega) (by unfold maxLen;omega) (Nat.le_refl _) ?_;intro w1 a4 T;have be:=gO (o:=0) T (by simp) O;have bw:=mr (o:=0) T b3 (by simp) av)
 have b8:=dy.start (ts:=ts) (n:=n) ad.out a4 T
 have ab:=Lib.hid a2
 have Y:=Lib.hid a6
 have am:=Lib.hid a3
 clear a4 T be bw a2 a6 O av a3
 go_loopg [18] ts.length (fun gk v wr=>∃(i:Nat) (I:ah),i+gk=ts.length∧v=.int .i64 (i:Int)∧dy w ib ts n i I wr)
 case atStart=>exact⟨0,_,by omega,rfl,b8⟩
 case round=>
  obtain⟨i,I,U,rfl,E⟩:=hrel;by_cases b2:gk=0
  ·subst b2;have e:¬(i:Int)<(ts.length:Int):=(by omega);obtain rfl:i=ts.length:=(by omega);go_wp2
   go_end0
   exact⟨rfl,I,E⟩
  ·have e:(i:Int)<(ts.length:Int):=(by omega);have b5:i<ts.length:=(by omega);obtain⟨c,L⟩:∃c,ts[i]?=some c:=⟨_,List.getElem?_eq_getElem b5⟩;have N:=aN (bM Y.out (k:=j) rfl).choose_spec
   have a7:j≠ib:=by
    obtain⟨N,b0⟩:=bM Y.out (k:=j) rfl;exact dq b0 ad.out (by decide)
   have Z:=E.av.br (fun k b4=>by simp[Value.ownBlock]at b4;omega) Y.out;have q:=fun J (N:J<9)=>(Z.cellAt (i*9+J) (by omega)).trans (eA aU 9 dZ ts i J c L N);cases c with
   |none=>
    have bg:wr.cell? ⟨j,i*9,none⟩=some (.int .u8 0):=q 0 (by omega);have bi:wr.cell? ⟨j,i*9+1,none⟩=some (.int .u8 0):=q 1 (by omega);have bn:wr.cell? ⟨j,i*9+2,none⟩=some (.int .u8 0):=q 2 (by omega);have bp:wr.cell? ⟨j,i*9+3,none⟩=some (.int .u8 0):=q 3 (by omega);have bq:wr.cell? ⟨j,i*9+4,none⟩=some (.int .u32 0):=q 4 (by omega);have br:wr.cell? ⟨j,i*9+5,none⟩=some (.int .u8 0):=q 5 (by omega);have bs:wr.cell? ⟨j,i*9+6,none⟩=some (.int .u32 0):=q 6 (by omega);have bt:wr.cell? ⟨j,i*9+7,none⟩=some (.int .u32 0):=q 7 (by omega);have bv:wr.cell? ⟨j,i*9+8,none⟩=some (.bool false):=q 8 (by omega);have K:=Lib.hid L;have X:=Lib.hid U;clear q Z L U a7;go_wp2
    go_roundg (gk-1)
    case rel=>exact⟨i+1,I,by have:=X.out;omega,by go_num,E.skip (by(exact kp)) K.out⟩
    case measure=>omega
   |some c=>
    obtain⟨r,id⟩:=c;have bg:wr.cell? ⟨j,i*9,none⟩=some (.int .u8 r.ad):=q 0 (by omega);have bi:wr.cell? ⟨j,i*9+1,none⟩=some (.int .u8 r.I):=q 1 (by omega);have bn:wr.cell? ⟨j,i*9+2,none⟩=some (.int .u8 r.J):=q 2 (by omega);have bp:wr.cell? ⟨j,i*9+3,none⟩=some (.int .u8 r.lo.tag):=q 3 (by omega);have bq:wr.cell? ⟨j,i*9+4,none⟩=some (.int .u32 r.lo.to):=q 4 (by omega);have br:wr.cell? ⟨j,i*9+5,none⟩=some (.int .u8 r.hi.tag):=q 5 (by omega);have bs:wr.cell? ⟨j,i*9+6,none⟩=some (.int .u32 r.hi.to):=q 6 (by omega);have bt:wr.cell? ⟨j,i*9+7,none⟩=some (.int .u32 id):=q 7 (by omega);have bv:wr.cell? ⟨j,i*9+8,none⟩=some (.bool true):=q 8 (by omega);have K:=Lib.hid L;have X:=Lib.hid U;clear q Z L U a7;have b7:=E.a4 a'.out aw bx ab.out;have b6:r.ok:=(ab.out r id ⟨i,K.out⟩).1;obtain⟨D,S⟩:=kt (H:=aX) r (E.room aw);obtain⟨k,W⟩:∃k:Nat,k=(aX r I.length+D)%I.length:=⟨_,rfl⟩;obtain⟨j,q,b1,b9,L⟩:=E.hz am.out K.out S W
    have a1:∀j,aa wr j→Calls Tryz.prog 200 #[.pointer (some ⟨ib,0,none⟩),.agg #[.int .u8 r.ad,.int .u8 r.I,.int .u8 r.J,.int .u8 r.lo.tag,.int .u32 r.lo.to,.int .u8 r.hi.tag,.int .u32 r.hi.to]] j fun e w'=>e=.returned (.int .i64 (k:Int))∧aa j w':=fun j j=>by
     rw[W];exact kB (b7.U j) r b6 D S
    have a8:=Lib.hid S;have bb:=Lib.hid W;have A:=Lib.hid q;have H:=Lib.hid a1;have j:(k:Int)<2*(ts.length:Int):=(by omega);have j:w.heap.size≠wr.heap.size:=(by omega);have O:wr.cell? ⟨ib,0,none⟩=some (.slice (some ⟨w.heap.size,0,none⟩) (2*ts.length) (2*ts.length)):=(by rw[cell_of_row wr ib 0 _ _ _ E.heap];rfl);have j:ib<wr.heap.size:=aN E.heap;clear S W q a1;go_wp2_with fail
    go_region_held3 (fun w'=>w'.cell? ⟨ib,0,none⟩=some (.slice (some ⟨w.heap.size,0,none⟩) (2*ts.length) (2*ts.length))∧(w'.cell? ⟨wr.heap.size,0,none⟩=some (.int .u8 r.ad)∧w'.cell? ⟨wr.heap.size,1,none⟩=some (.int .u8 r.I)∧w'.cell? ⟨wr.heap.size,2,none⟩=some (.int .u8 r.J)∧w'.cell? ⟨wr.heap.size,3,none⟩=some (.int .u8 r.lo.tag)∧w'.cell? ⟨wr.heap.size,4,none⟩=some (.int .u32 r.lo.to)∧w'.cell? ⟨wr.heap.size,5,none⟩=some (.int .u8 r.hi.tag)∧w'.cell? ⟨wr.heap.size,6,none⟩=some (.int .u32 r.hi.to)∧w'.cell? ⟨wr.heap.size,7,none⟩=some (.int .u32 id)∧w'.cell? ⟨wr.heap.size,8,none⟩=some (.bool true))) (go_keep) ((first|(go_at_call 200;refine(H.out _ (by(exact kp))).mono ?_;rintro e s ⟨rfl,j⟩;have z:aa (wr.alloc (.cells #[.int .u8 r.ad,.int .u8 r.I,.int .u8 r.J,.int .u8 r.lo.tag,.int .u32 r.lo.to,.int .u8 r.hi.tag,.int .u32 r.hi.to,.int .u32 id,.bool true] 274)) s:=(by(exact kp));have t:aa wr s:=(((aa.refl _).alloc _).trans z);have j:=t.cell O;have j:s.cell? ⟨wr.heap.size,0,none⟩=some (.int .u8 r.ad):=z.cell (by simp);have j:s.cell? ⟨wr.heap.size,1,none⟩=some (.int .u8 r.I):=z.cell (by simp);have j:s.cell? ⟨wr.heap.size,2,none⟩=some (.int .u8 r.J):=z.cell (by simp);have j:s.cell? ⟨wr.heap.size,3,none⟩=some (.int .u8 r.lo.tag):=z.cell (by simp);have j:s.cell? ⟨wr.heap.size,4,none⟩=some (.int .u32 r.lo.to):=z.cell (by simp);have j:s.cell? ⟨wr.heap.size,5,none⟩=some (.int .u8 r.hi.tag):=z.cell (by simp);have j:s.cell? ⟨wr.heap.size,6,none⟩=some (.int .u32 r.hi.to):=z.cell (by simp);have j:s.cell? ⟨wr.heap.size,7,none⟩=some (.int .u32 id):=z.cell (by simp);have j:s.cell? ⟨wr.heap.size,8,none⟩=some (.bool true):=z.cell (by simp);have j:s.cell? ⟨w.heap.size,k*9,none⟩=some (.int .u8 0):=t.cell (A.out 0 (by omega));have j:s.cell? ⟨w.heap.size,k*9+1,none⟩=some (.int .u8 0):=t.cell (A.out 1 (by omega));have j:s.cell? ⟨w.heap.size,k*9+2,none⟩=some (.int .u8 0):=t.cell (A.out 2 (by omega));have j:s.cell? ⟨w.heap.size,k*9+3,none⟩=some (.int .u8 0):=t.cell (A.out 3 (by omega));have j:s.cell? ⟨w.heap.size,k*9+4,none⟩=some (.int .u32 0):=t.cell (A.out 4 (by omega));have j:s.cell? ⟨w.heap.size,k*9+5,none⟩=some (.int .u8 0):=t.cell (A.out 5 (by omega));have j:s.cell? ⟨w.heap.size,k*9+6,none⟩=some (.int .u32 0):=t.cell (A.out 6 (by omega));have j:s.cell? ⟨w.heap.size,k*9+7,none⟩=some (.int .u32 0):=t.cell (A.out 7 (by omega));have j:s.cell? ⟨w.heap.size,k*9+8,none⟩=some (.bool false):=t.cell (A.out 8 (by omega));have j:∀J,s.frozen? ⟨w.heap.size,J,none⟩=false:=(fun J=>(Below.frozen (p:=⟨w.heap.size,J,none⟩) t b9).trans (b1 J)))))
    go_wp2
    go_roundg (gk-1)
    case rel=>exact⟨i+1,I.set k (some (r,id)),by have:=X.out;omega,by go_num,E.step t K.out a8.out am.out k bb.out⟩
    case measure=>omega

structure fZ (w:World)(ib tb cap:Nat)(ts:ah)(n:Int)(k:Nat)(r:Rec)(id:Int)(W:World):Prop where
 heap:W.heap[ib]?=some (.cells #[.slice (some ⟨tb,0,none⟩) ts.length cap,.int .i64 (n+1)] 255 (0,0))
 row:W.ownsRow 0 274 9 (.slice (some ⟨tb,0,none⟩) ts.length cap) ts.length ((ts.set k (some (r,id))).flatMap aU)
 av:ae (fun x=>x=ib∨x=tb) w W

theorem fZ.U {w:World}{ib s cap:Nat}{ts:ah}{n:Int}{k:Nat}{r:Rec}{id:Int}{q W':World}(h:fZ w ib s cap ts n k r id q)(j:aa q W'):fZ w ib s cap ts n k r id W':=
 ⟨j.heap h.heap,j.br h.row,h.av.a' (j.av _)⟩

theorem fZ.hr {w w1:World}{ib j cap:Nat}{ts:ah}{n:Int}(s:w.heap[ib]?=some (.cells #[.slice (some ⟨j,0,none⟩) ts.length cap,.int .i64 n] 255 (0,0)))
  (t:w.ownsRow 0 274 9 (.slice (some ⟨j,0,none⟩) ts.length cap) ts.length (ts.flatMap aU)) (q:aa w w1) {k:Nat} (I:k<ts.length) (r:Rec) (id:Int) :
  fZ w ib j cap ts n k r id ((cW w1 j (k*9) (aU (some (r,id)))).setCell ⟨ib,1,none⟩ (.int .i64 (n+1))):=by
 obtain⟨L,E⟩:=bM t (k:=j) rfl
 have J:j≠ib:=dq E s (by decide)
 have z:=iw j (aU (some (r,id))) (k*9) w1
 have A:=jc aU dZ rfl (q.br t) k I (some (r,id))
 have t:=(z.block ib (Nat.lt_of_lt_of_le (aN s) q.size) (fun e=>J e.symm)).trans (q.heap s)
 refine⟨heap_setCell_same _ ib 1 _ _ _ t,?_,?_⟩
 ·exact ae.br (F:=fun x=>x=ib) (ae.setCell (F:=fun x=>x=ib) (p:=⟨ib,1,none⟩) (ae.refl _ _) (Or.inl rfl) _) (fun x K=>by simp[Value.ownBlock]at K;omega) A
 ·exact ae.setCell (F:=fun x=>x=ib∨x=j) (p:=⟨ib,1,none⟩) ((q.av _).a' (z.mono (fun x _ e=>.inr e))) (Or.inl (.inl rfl)) _

theorem wK {w:World}{ib j cap:Nat}{ts:ah}{n:Int}(z:w.heap[ib]?=some (.cells #[.slice (some ⟨j,0,none⟩) ts.length cap,.int .i64 n] 255 (0,0)))
  (A:w.ownsRow 0 274 9 (.slice (some ⟨j,0,none⟩) ts.length cap) ts.length (ts.flatMap aU)) (aw:ts.length≤4194304) (a4:0≤n) (a5:n≤1048576) (k:Nat) (a1:k<ts.length) (r:Rec) (id:Int) (O:ts[k]?=some none)
  (R:World→World→Prop) (L:∀q,fZ w ib j cap ts n k r id q→2*(n+1)≤(ts.length:Int)→R q q)
  (K:∀q,fZ w ib j cap ts n k r id q→(ts.length:Int)<2*(n+1)→Calls Tryz.prog 203 #[.pointer (some ⟨ib,0,none⟩)] q fun e w'=>e=.returned (.tuple #[])∧R q w')
  (N:∀q,aa w q→Calls Tryz.prog 200 #[.pointer (some ⟨ib,0,none⟩),.agg #[.int .u8 r.ad,.int .u8 r.I,.int .u8 r.J,.int .u8 r.lo.tag,.int .u32 r.lo.to,.int .u8 r.hi.tag,.int .u32 r.hi.to]] q fun e w'=>e=.returned (.int .i64 (k:Int))∧aa q w') :
  Calls Tryz.prog 138 #[.pointer (some ⟨ib,0,none⟩),.agg #[.int .u8 r.ad,.int .u8 r.I,.int .u8 r.J,.int .u8 r.lo.tag,.int .u32 r.lo.to,.int .u8 r.hi.tag,.int .u32 r.hi.to],.int .u32 id] w fun e w'=>e=.returned (.tuple #[.int .u32 0,.bool false])∧∃q,fZ w ib j cap ts n k r id q∧R q w':=by
 have X:w.cell? ⟨ib,0,none⟩=some (.slice (some ⟨j,0,none⟩) ts.length cap):=by rw[cell_of_row w ib 0 _ _ _ z];rfl
 have Y:w.cell? ⟨ib,1,none⟩=some (.int .i64 n):=by rw[cell_of_row w ib 1 _ _ _ z];rfl
 have Z:w.frozen? ⟨ib,1,none⟩=false:=frozen_of_row w ib 1 _ _ z
 have av:=aN z
 obtain⟨q,I⟩:=bM A (k:=j) rfl
 have a3:=aN I
 have q:ib≠j:=dq z I (by decide)
 have aw:j≠ib:=q.symm
 have ad:∀s,w.frozen? ⟨j,s,none⟩=false:=fun s=>A.frozenAt s
 have q:=fun s (aw:s<9)=>(A.cellAt (k*9+s) (by omega)).trans (eA aU 9 dZ ts k s none O aw)
 have aw:(k:Int)<(ts.length:Int):=by omega
 have T:=Lib.hid z
 have W:=Lib.hid A
 have t:=Lib.hid q
 have H:=Lib.hid N
 have U:=Lib.hid L
 have S:=Lib.hid K
 clear I z A q O N L K
 go_enter Tryz.func138,Tryz.ntmps138
 go_wp2_with (first|(go_at_call 200;refine(H.out _ (by(exact kp))).mono ?_;rintro e w1 ⟨rfl,ab⟩;obtain⟨q,z,A,I,K,L,N⟩:=fQ (w:=w) (w1:=w1) (show aa (w.alloc (.cells #[.int .u8 r.ad,.int .u8 r.I,.int .u8 r.J,.int .u8 r.lo.tag,.int .u32 r.lo.to,.int .u8 r.hi.tag,.int .u32 r.hi.to] 199)) w1 by(exact kp));have q:aa w w1:=(((aa.refl _).alloc _).trans ab);have z:=q.cell X;have z:=q.cell Y;have z:=(Below.frozen (p:=⟨ib,1,none⟩) q av).trans Z;have z:∀s,w1.frozen? ⟨j,s,none⟩=false:=(fun s=>(Below.frozen (p:=⟨j,s,none⟩) q a3).trans (ad s));have s:w1.cell? ⟨j,k*9,none⟩=some (.int .u8 0):=q.cell (t.out 0 (by omega));have s:w1.cell? ⟨j,k*9+1,none⟩=some (.int .u8 0):=q.cell (t.out 1 (by omega));have s:w1.cell? ⟨j,k*9+2,none⟩=some (.int .u8 0):=q.cell (t.out 2 (by omega));have s:w1.cell? ⟨j,k*9+3,none⟩=some (.int .u8 0):=q.cell (t.out 3 (by omega));have s:w1.cell? ⟨j,k*9+4,none⟩=some (.int .u32 0):=q.cell (t.out 4 (by omega));have s:w1.cell? ⟨j,k*9+5,none⟩=some (.int .u8 0):=q.cell (t.out 5 (by omega));have s:w1.cell? ⟨j,k*9+6,none⟩=some (.int .u32 0):=q.cell (t.out 6 (by omega));have s:w1.cell? ⟨j,k*9+7,none⟩=some (.int .u32 0):=q.cell (t.out 7 (by omega));have s:w1.cell? ⟨j,k*9+8,none⟩=some (.bool false):=q.cell (t.out 8 (by omega)))|fail)
 have J:=fZ.hr (n:=n) T.out W.out q a1 r id
 simp only[cW,aU,fI,List.cons_append,List.nil_append]at J
 have E:=Lib.hid J
 clear J
 have q:w.heap.size≠j:=by omega
 have j:w.heap.size≠ib:=by omega
 go_region
 go_wp2
 by_cases am:(ts.length:Int)<2*(n+1)
 ·go_quiet (fail)
  go_wp2_with (first|(go_at_call 203;refine(S.out _ (E.out.U (by(exact kp))) am).mono ?_;rintro e j ⟨rfl,a2⟩)|fail)
  go_ret2
  exact⟨rfl,_,E.out.U (by(exact kp)),a2⟩
 ·go_quiet (fail)
  go_wp2
  go_ret2
  exact⟨rfl,_,E.out.U (by(exact kp)),U.out _ (E.out.U (by(exact kp))) (by omega)⟩

theorem wB {F:Nat→Prop}{w:World}{ib:Nat}{ts:ah}{n:Int}(h:cQ F w ib ts n)(br:n=(occ ts:Int))(bs:occ ts<1048576)(r:Rec)(a1:r.ok)(id:Int)(be:0≤id)(bg:id≤4294967295)(bn:∀j,¬ah.has ts r j) :
  Calls Tryz.prog 138 #[.pointer (some ⟨ib,0,none⟩),.agg #[.int .u8 r.ad,.int .u8 r.I,.int .u8 r.J,.int .u8 r.lo.tag,.int .u32 r.lo.to,.int .u8 r.hi.tag,.int .u32 r.hi.to],.int .u32 id] w fun e w'=>e=.returned (.tuple #[.int .u32 0,.bool false])∧ae F w w' ∧
   ∃ad,cQ (au F w w') w' ib ad (n+1)∧n+1=(occ ad:Int)∧∀s j,ah.has ad s j↔(s=r∧j=id)∨ah.has ts s j:=by
 obtain⟨D,U⟩:=kt (H:=aX) r h.room
 obtain⟨k,K⟩:∃k:Nat,k=(aX r ts.length+D)%ts.length:=⟨_,rfl⟩
 have bb:∀q,aa w q→Calls Tryz.prog 200 #[.pointer (some ⟨ib,0,none⟩),.agg #[.int .u8 r.ad,.int .u8 r.I,.int .u8 r.J,.int .u8 r.lo.tag,.int .u32 r.lo.to,.int .u8 r.hi.tag,.int .u32 r.hi.to]] q fun e w'=>e=.returned (.int .i64 (k:Int))∧aa q w':=fun q A=>by
  rw[K];exact kB (h.U A) r a1 D U
 have bi:k<ts.length:=by rw[K];exact Nat.mod_lt _ (by have:=U.lt;omega)
 have I:ts[k]?=some none:=by
  rcases U.stop with I|⟨j,I⟩;·rw[K];exact I
  ·exact(bn j ⟨_,I⟩).elim
 obtain⟨X,ad,T⟩:=h.ok.put U (K ▸ I) id
 rw[←K]at X ad T
 obtain⟨⟨ab,cap,a5,a6,am⟩,S,⟨p,W⟩,K,a3,U,ad,a4⟩:=h
 have bp:∀x,x=ib∨x=ab→F x:=fun x L=>by rcases L with rfl|rfl;exact S;exact am
 have z:(ts.set k (some (r,id))).length=ts.length:=List.length_set
 have Y:∀s j,ah.has (ts.set k (some (r,id))) s j→s.ok∧0≤j∧j≤4294967295:=fun s j J=>by
  rcases(T s j).1 J with⟨rfl,rfl⟩|J
  ·exact⟨a1,be,bg⟩
  ·exact a4 s j J
 refine(wK a5 a6 a3 (by omega) (by omega) k bi r id I (fun q w'=>(q=w'∧2*(n+1)≤(ts.length:Int))∨((ts.length:Int)<2*(n+1)∧∃O,dy q ib (ts.set k (some (r,id))) (n+1) ts.length O w')) (fun q A aw=>.inl ⟨rfl,aw⟩) (fun q A av=>?_) bb).mono ?_
 ·refine(vN (F:=F) (w:=q) (ib:=ib) (ts:=ts.set k (some (r,id))) (n:=n+1) ab cap p (by rw[z];exact A.heap) (by rw[z];exact A.row) (by rw[z];exact W) (by omega) (by omega) X Y).mono ?_;rintro e w' ⟨rfl,O,t⟩;rw[z]at t;exact⟨rfl,.inr ⟨av,O,t⟩⟩
 ·rintro e w' ⟨rfl,q,A,a7⟩;have a2:ae F w q:=A.av.mono (fun x _ L=>bp x L);rcases a7 with⟨rfl,aw⟩|⟨av,O,t⟩
  ·refine⟨rfl,a2,ts.set k (some (r,id)),⟨⟨ab,cap,by rw[z];exact A.heap,by rw[z];exact A.row,.inl am⟩,.inl S,⟨p,by rw[z];exact W⟩,by omega,by omega,by omega,X,Y⟩,by omega,T⟩
  ·have I:=t.gx;have Z:=t.len;rw[List.take_of_length_le (by omega)]at I
   have a8:q.heap.size<w'.heap.size:=by
    obtain⟨I,a'⟩:=bM t.row (k:=q.heap.size) rfl;exact aN a'
   have bq:=A.av.size;refine⟨rfl,a2.a' (t.av.mono (fun x _ L=>by subst L;exact S)),O,⟨⟨q.heap.size,2*ts.length,?_,?_,.inr ⟨bq,a8⟩⟩,.inl S,⟨p+1,by rw[Z,z,W,Nat.pow_succ];omega⟩,by omega,by omega,by omega,t.ok,?_⟩,by omega,?_⟩
   ·rw[Z,z];have:=t.heap;rw[z]at this;exact this
   ·rw[Z,z];have:=t.row;rw[z]at this;exact this
   ·intro s j J;obtain⟨N,_,E⟩:=(t.has s j).1 J;exact Y s j ⟨N,E⟩
   ·intro s j;rw[←T s j,t.has s j];constructor
    ·rintro⟨N,_,E⟩;exact⟨N,E⟩
    ·rintro⟨N,E⟩;exact⟨N,by have:=(List.getElem?_eq_some_iff.1 E).1;omega,E⟩

theorem wA (w:World) :
  Calls Tryz.prog 117 #[] w fun e w'=>∃ib,e=.returned (.pointer (some ⟨ib,0,none⟩))∧w.heap.size≤ib∧aa w w'∧cQ (fun k=>w.heap.size≤k∧k<w'.heap.size) w' ib (List.replicate 8 none) 0:=by
 obtain⟨L,hi,I,J,K⟩:=info_parts pI
 go_enter Tryz.func117,Tryz.ntmps117
 go_wp2_with (at_make;refine wpList_make_full _ rfl _ _ 253 rfl w.heap.size 274 L _ 9 Tryz.underlying253 hi I J .i64 .i64 8 8 8 rfl rfl (by omega) (by omega) (by rw[K];omega) (by unfold maxLen;omega) (Nat.le_refl _) ?_;intro w1 q E)
 go_ret
 rw[qc]at q
 have j:aa w w1:=ae.U (F:=fun _=>False) ((ae.refl _ w).cy E (fun k j=>by simp at j)) (fun _ _ h=>h)
 obtain⟨E,A⟩:=bM q (k:=w.heap.size) rfl
 have E:=aN A
 obtain⟨s,t,z⟩:=dI.empty aX 8
 refine⟨w1.heap.size,rfl,j.size,j.alloc _,⟨⟨w.heap.size,8,?_,?_,?_⟩,?_,⟨3,rfl⟩,by simp,by simp,by rw[t];simp,s,fun r id h=>(z r id h).elim⟩⟩
 ·exact heap_alloc_new w1 _
 ·exact qA (q.alloc _) (Nat.zero_le _)
 ·simp;omega
 ·have:=j.size;simp;omega

end Go.Proofs.YtafkamlhimkbmaaGreat
