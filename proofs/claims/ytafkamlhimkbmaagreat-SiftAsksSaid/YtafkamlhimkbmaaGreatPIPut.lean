/-
  Walks of package index.
-/
import Derived.Test.YtafkamlhimkbmaaGreatPStA
import Derived.Deep.LoopGhost
namespace Go.Proofs.YtafkamlhimkbmaaGreat
set_option maxRecDepth 1000000
set_option maxHeartbeats 8000000
set_option linter.unusedSimpArgs false
set_option linter.unusedVariables false
open Go.RowKit
def jz (r:Rec):Int:=
 bits BinOp.xor IntKind.u64 (IntKind.u64.wrap (oC r*11400714819323198485)) (IntKind.u64.wrap (oC r*11400714819323198485) / 4294967296)
def bl (r:Rec)(len:Nat):Nat:=(jz r).toNat%len
theorem ym (r:Rec):0≤jz r∧jz r<18446744073709551616:=by
 unfold jz bits;simp only[IntKind.wrap_u64];omega
theorem yn (r:Rec)(p len:Nat)(q:len=2 ^ p)(t:len≤4194304):bits BinOp.and IntKind.u64 (jz r) ((len:Int)-1)=(bl r len:Int):=by
 obtain⟨j,s⟩:=ym r
 have t:p≤22:=by
  rcases Nat.lt_or_ge 22 p with h|h
  ·have:=Nat.pow_lt_pow_right (a:=2) (by decide) h;omega
  ·exact h
 have h:=bits_mask .u64 64 (by decide) (fun n j s=>by rw[IntKind.wrap_u64];omega) p (by omega) (jz r) j (by omega);have e:(len:Int)=2 ^ p:=by rw[q];simp
 rw[e,h,bl,q];rw[Int.natCast_emod,Int.toNat_of_nonneg j];simp
theorem zT (i p len:Nat)(j:len=2 ^ p)(q:len≤4194304)(hi:i<len):bits BinOp.and IntKind.i64 ((i:Int)+1) ((len:Int)-1)=(((i+1)%len:Nat):Int):=by
 have q:p≤22:=by
  rcases Nat.lt_or_ge 22 p with h|h
  ·have:=Nat.pow_lt_pow_right (a:=2) (by decide) h;omega
  ·exact h
 have h:=bits_mask .i64 63 (by decide) (fun n q q=>by rw[IntKind.wrap_i64];omega) p (by omega) ((i:Int)+1) (by omega) (by omega);have e:(len:Int)=2 ^ p:=by rw[j];simp
 rw[e,h,j];simp
theorem zL (a b c d e f g : Value) (w : World) : (method 454 199 (.agg #[a, b, c, d, e, f, g]) "Hash").run Tryz.prog w = .ok (292, .agg #[a, b, c, d, e, f, g]) w := by kernel_rfl
theorem rh (ib I len cap p:Nat)(r:Rec)(B:r.ok)(w:World)(t:w.cell? ⟨ib,0,none⟩=some (.slice (some ⟨I,0,none⟩) len cap))(J:8≤len)(z:len≤4194304)(s:len=2 ^ p) :
  Calls Tryz.prog 211 #[.pointer (some ⟨ib,0,none⟩),.agg #[.int .u8 r.al,.int .u8 r.I,.int .u8 r.J,.int .u8 r.lo.tag,.int .u32 r.lo.to,.int .u8 r.hi.tag,.int .u32 r.hi.to]] w fun e w'=>
   e=.returned (.int .i64 (bl r len:Int))∧ae w w':=by
 have I:ib<w.heap.size:=aB t
 have A:=yn r p len s z
 have t:bl r len<len:=bU _ (by omega)
 unfold jz at A
 have t:=zL
 clear s
 go_enter Tryz.func211,Tryz.ntmps211
 go_wp2_with (first|(go_at_call 292;refine(yj _ B _).mono ?_;rintro e w1 ⟨rfl,j⟩;have q:ae w w1:=kp;obtain⟨s,t⟩:=j.cells;obtain⟨s,t⟩:=q.cells;have E:=j.size;(try simp only[ai,World.cx,World.a5,au]at E);have j:=q.size;have j:w.heap.size<w1.heap.size:=(by omega))|fail)
 go_ret
 exact⟨rfl,kp⟩
theorem mB (ib s len cap i p:Nat)(w:World)(t:w.cell? ⟨ib,0,none⟩=some (.slice (some ⟨s,0,none⟩) len cap))(z:8≤len)(q:len≤4194304)(hi:i<len)(j:len=2 ^ p) :
  Calls Tryz.prog 210 #[.pointer (some ⟨ib,0,none⟩),.int .i64 i] w fun e w'=>
   e=.returned (.int .i64 (((i+1)%len:Nat):Int))∧w=w':=by
 have s:=zT i p len j q hi
 clear j
 go_enter Tryz.func210,Tryz.ntmps210
 go_wp2
 go_ret
 exact⟨rfl,rfl⟩
theorem xP (ib J len cap p D:Nat)(r:Rec)(bw:r.ok)(ts:List (Option (Rec×Int)))(w:World)(L:w.cell? ⟨ib,0,none⟩=some (.slice (some ⟨J,0,none⟩) len cap))(a0:8≤len)(aw:len≤4194304)(a5:len=2 ^ p)
  (bd:∀i c,ts[i]?=some c→∀t,t<9→w.cell? ⟨J,i*9+t,none⟩=(bj c)[t]?) (bb:ts.length=len)
  (bx:D<len) (a3:∀d,d<D→∃q id,ts[(bl r len+d)%len]?=some (some (q,id))∧q≠r)
  (a8:ts[(bl r len+D)%len]?=some none∨∃id,ts[(bl r len+D)%len]?=some (some (r,id))) :
  Calls Tryz.prog 200 #[.pointer (some ⟨ib,0,none⟩),.agg #[.int .u8 r.al,.int .u8 r.I,.int .u8 r.J,.int .u8 r.lo.tag,.int .u32 r.lo.to,.int .u8 r.hi.tag,.int .u32 r.hi.to]] w fun e w'=>
   e=.returned (.int .i64 (((bl r len+D)%len:Nat):Int))∧ae w w':=by
 have bt:ib<w.heap.size:=aB L
 have a6:=aa a5
 have bx:=aa bb
 clear a5 bb
 have S:=aa bd
 have bf:=aa a3
 have bi:=aa a8
 clear bd a3 a8
 go_enter Tryz.func200,Tryz.ntmps200
 go_wp2_with (first|(go_at_call 211;refine(rh ib J len cap p r bw _ (by simp[go_sem,L,bt]) a0 aw a6.out).mono ?_;rintro e w1 ⟨rfl,U⟩;have z:ae w w1:=kp;obtain⟨bn,br⟩:=U.cells;obtain⟨bp,bs⟩:=z.cells;have a':=U.size;(try simp only[ai,World.cx,World.a5,au]at a');have a3:=z.size;have a5:w.heap.size<w1.heap.size:=(by omega))|fail)
 have a8:ae (w.alloc (.cells #[.int .u8 r.al,.int .u8 r.I,.int .u8 r.J,.int .u8 r.lo.tag,.int .u32 r.lo.to,.int .u8 r.hi.tag,.int .u32 r.hi.to] 199)) w1:=U
 have U:=dL a8
 have O:=z.cell L
 clear bn br bp bs a' a3 a5
 have be:=aa U
 have bg:=aa O
 clear U O L
 go_loopg [5] D (fun gk i wr=>∃d k:Nat,d+gk=D∧Hid (k=(bl r len+d)%len)∧k<len∧i=.int .i64 (k:Int)∧ae w1 wr)
 case atStart=>exact⟨0,bl r len,by omega,(by show _=_;rw[gA,dT];unfold bl;exact bU _ (by omega)),(by unfold bl;exact bU _ (by omega)),rfl,ae.refl _⟩
 case round=>
  obtain⟨d,k,N,A,bv,rfl,I⟩:=hrel;obtain⟨L,U,a3,a5,a8,a',bb⟩:=I.ee be.out;have O:=I.cell bg.out;have L:(k:Int)<(len:Int):=by omega
  by_cases W:gk=0
  ·subst W;rcases bi.out with B|⟨id,B⟩
   ·have a7:=(I.cell (z.cell ((S.out _ _ B 8 (by omega)).trans rfl)));have s:d=D:=(by omega);have L:wr.cell? ⟨J,k*9+8,none⟩=some (.bool false):=(by rw[A.out,s];exact a7);have s:=aa s;clear a7 N;go_wp2_with fail;go_quiet (fail);go_wp2;go_ret;have T:k=(bl r len+D)%len:=(by rw[A.out,s.out]);refine⟨?_,kp⟩;rw[←T];rfl
   ·have j:=fun t E=>I.cell (z.cell ((S.out _ _ B t E).trans (ar (by rw[fC];exact E))));have s:d=D:=(by omega);rw[←s,←A.out]at j;have X:=j 0 (by omega);have Y:=j 1 (by omega);have Z:=j 2 (by omega);have ab:=j 3 (by omega);have ad:=j 4 (by omega);have al:=j 5 (by omega);have am:=j 6 (by omega);have av:=j 8 (by omega);simp[bj,df]at X Y Z ab ad al am av;have s:=aa s;clear j N;go_wp2_with fail;go_quiet (fail);go_wp2;go_ret;have T:k=(bl r len+D)%len:=(by rw[A.out,s.out]);refine⟨?_,kp⟩;rw[←T];rfl
  ·obtain⟨q,id,B,a4⟩:=bf.out d (by omega);have j:=fun t E=>I.cell (z.cell ((S.out _ _ B t E).trans (ar (by rw[fC];exact E))));rw[←A.out]at j;have X:=j 0 (by omega);have Y:=j 1 (by omega);have Z:=j 2 (by omega);have ab:=j 3 (by omega);have ad:=j 4 (by omega);have al:=j 5 (by omega);have am:=j 6 (by omega);have av:=j 8 (by omega);simp[bj,df]at X Y Z ab ad al am av;have s:∀s,(binOp .neq 199 (.agg #[.int .u8 q.al,.int .u8 q.I,.int .u8 q.J,.int .u8 q.lo.tag,.int .u32 q.lo.to,.int .u8 q.hi.tag,.int .u32 q.hi.to]) (.agg #[.int .u8 r.al,.int .u8 r.I,.int .u8 r.J,.int .u8 r.lo.tag,.int .u32 r.lo.to,.int .u8 r.hi.tag,.int .u32 r.hi.to])).run Tryz.prog s=.ok (.bool true) s:=fun s=>(by rw[B'];simp[a4]);have bq:=aa N;have a1:=aa W;clear j B a4 N W;go_wp2_with fail;go_quiet (fail);go_wp2_with (first|(go_at_call 210;refine(mB ib J len cap k p _ (by simpa using O) a0 aw bv a6.out).mono ?_;rintro e j ⟨rfl,rfl⟩)|fail)
   go_roundg (gk-1)
   case rel=>exact⟨d+1,(k+1)%len,by have:=bq.out;have:=a1.out;omega,(by show _=_;rw[A.out];simp[Nat.add_assoc,Nat.mod_add_mod]),bU _ (by omega),rfl,kp⟩
   case measure=>have:=a1.out;omega
structure dI (F:Nat→Prop)(w:World)(ib:Nat)(ts:ao)(n:Int):Prop where
 h8:∃tb cap,w.heap[ib]?=some (.cells #[.slice (some ⟨tb,0,none⟩) ts.length cap,.int .i64 n] 255 (0,0)) ∧
  w.ownsRow 0 274 9 (.slice (some ⟨tb,0,none⟩) ts.length cap) ts.length (ts.flatMap bj)∧F tb
 own:F ib
 hZ:∃p,ts.length=2 ^ p
 e1:8≤ts.length
 hG:ts.length≤4194304
 hQ:2*occ ts≤ts.length
 ok:eN bl ts
 b0:∀r id,ao.has ts r id→r.ok∧0≤id∧id≤4294967295
theorem yw (ib j len cap k:Nat)(r x:Rec)(id:Int)(b:Bool)(w:World)(B:w.cell? ⟨ib,0,none⟩=some (.slice (some ⟨j,0,none⟩) len cap))(W:len≤4194304)(s:k<len)
  (A:w.cell? ⟨j,k*9,none⟩=some (.int .u8 x.al)) (I:w.cell? ⟨j,k*9+1,none⟩=some (.int .u8 x.I)) (J:w.cell? ⟨j,k*9+2,none⟩=some (.int .u8 x.J))
  (L:w.cell? ⟨j,k*9+3,none⟩=some (.int .u8 x.lo.tag)) (N:w.cell? ⟨j,k*9+4,none⟩=some (.int .u32 x.lo.to)) (O:w.cell? ⟨j,k*9+5,none⟩=some (.int .u8 x.hi.tag))
  (S:w.cell? ⟨j,k*9+6,none⟩=some (.int .u32 x.hi.to)) (T:w.cell? ⟨j,k*9+7,none⟩=some (.int .u32 id)) (U:w.cell? ⟨j,k*9+8,none⟩=some (.bool b))
  (z:∀q,ae w q→Calls Tryz.prog 200 #[.pointer (some ⟨ib,0,none⟩),.agg #[.int .u8 r.al,.int .u8 r.I,.int .u8 r.J,.int .u8 r.lo.tag,.int .u32 r.lo.to,.int .u8 r.hi.tag,.int .u32 r.hi.to]] q fun e w'=>
    e=.returned (.int .i64 (k:Int))∧ae q w') :
  Calls Tryz.prog 135 #[.pointer (some ⟨ib,0,none⟩),.agg #[.int .u8 r.al,.int .u8 r.I,.int .u8 r.J,.int .u8 r.lo.tag,.int .u32 r.lo.to,.int .u8 r.hi.tag,.int .u32 r.hi.to]] w fun e w'=>
   e=.returned (.tuple #[.int .u32 (if b then id else 0),.bool b])∧ae w w':=by
 have q:ib<w.heap.size:=aB B
 have q:j<w.heap.size:=aB A
 have q:(k:Int)<(len:Int):=by omega
 have q:w.heap.size+1≠ib:=by omega
 have q:w.heap.size+1≠j:=by omega
 have H:=aa z
 clear z
 go_enter Tryz.func135,Tryz.ntmps135
 go_wp2
 go_region_held3 (fun w'=>w'.cell? ⟨ib,0,none⟩=some (.slice (some ⟨j,0,none⟩) len cap)∧(w'.cell? ⟨w.heap.size,0,none⟩=some (.int .u8 r.al)∧w'.cell? ⟨w.heap.size,1,none⟩=some (.int .u8 r.I)∧w'.cell? ⟨w.heap.size,2,none⟩=some (.int .u8 r.J)∧w'.cell? ⟨w.heap.size,3,none⟩=some (.int .u8 r.lo.tag)∧w'.cell? ⟨w.heap.size,4,none⟩=some (.int .u32 r.lo.to)∧w'.cell? ⟨w.heap.size,5,none⟩=some (.int .u8 r.hi.tag)∧w'.cell? ⟨w.heap.size,6,none⟩=some (.int .u32 r.hi.to))∧(w'.cell? ⟨j,k*9,none⟩=some (.int .u8 x.al)∧w'.cell? ⟨j,k*9+1,none⟩=some (.int .u8 x.I)∧w'.cell? ⟨j,k*9+2,none⟩=some (.int .u8 x.J)∧w'.cell? ⟨j,k*9+3,none⟩=some (.int .u8 x.lo.tag)∧w'.cell? ⟨j,k*9+4,none⟩=some (.int .u32 x.lo.to)∧w'.cell? ⟨j,k*9+5,none⟩=some (.int .u8 x.hi.tag)∧w'.cell? ⟨j,k*9+6,none⟩=some (.int .u32 x.hi.to)∧w'.cell? ⟨j,k*9+7,none⟩=some (.int .u32 id)∧w'.cell? ⟨j,k*9+8,none⟩=some (.bool b))) (go_keep) ((first|(go_at_call 200;refine(H.out _ kp).mono ?_;rintro e w1 ⟨rfl,t⟩;obtain⟨q,z,A,B,I,J,L⟩:=dL (w:=w) (w1:=w1) (show ae (w.alloc (.cells #[.int .u8 r.al,.int .u8 r.I,.int .u8 r.J,.int .u8 r.lo.tag,.int .u32 r.lo.to,.int .u8 r.hi.tag,.int .u32 r.hi.to] 199)) w1 from kp);have s:ae w w1:=kp;obtain⟨q,z⟩:=t.cells;obtain⟨q,z⟩:=s.cells;have E:=t.size;(try simp only[ai,World.cx,World.a5,au]at E);have q:=s.size;have q:w.heap.size<w1.heap.size:=(by omega);have q:w1.heap.size≠ib:=(by omega);have q:w1.heap.size≠j:=(by omega);have j:w1.heap.size≠w.heap.size:=(by omega))))
 all_goals cases b
 all_goals(go_wp2;go_ret2;exact⟨rfl,kp⟩)
theorem dI.open {F:Nat→Prop}{w:World}{ib:Nat}{ts:ao}{n:Int}(h:dI F w ib ts n) :
  ∃q cap,w.cell? ⟨ib,0,none⟩=some (.slice (some ⟨q,0,none⟩) ts.length cap)∧w.cell? ⟨ib,1,none⟩=some (.int .i64 n)∧F q∧ib≠q ∧
   (∀i c,ts[i]?=some c→∀j,j<9→w.cell? ⟨q,i*9+j,none⟩=(bj c)[j]?)∧(∀j,w.frozen? ⟨q,j,none⟩=false)∧(∀j,w.frozen? ⟨ib,j,none⟩=false):=by
 obtain⟨⟨q,cap,s,t,A⟩,_⟩:=h
 obtain⟨z,B⟩:=bF t (k:=q) rfl
 refine⟨q,cap,by rw[cell_of_row w ib 0 _ _ _ s];rfl,by rw[cell_of_row w ib 1 _ _ _ s];rfl,A,(de B s (by decide)).symm,fun i c z j E=>?_,fun j=>t.frozenAt j,fun j=>frozen_of_row w ib j _ _ s⟩
 have hi:=(List.getElem?_eq_some_iff.1 z).1
 rw[t.cellAt (i*9+j) (by omega)]
 exact en bj 9 fC ts i j c z E
theorem dI.a4 {F G:Nat→Prop}{w j:World}{ib:Nat}{ts:ao}{n:Int}(h:dI F w ib ts n)(A:af G w j)(t:∀k,F k→¬G k):dI F j ib ts n:=by
 obtain⟨⟨O,cap,j,N,s⟩,q,a2,B,E,I,J,L⟩:=h;exact⟨⟨O,cap,(A.block ib (aM j) (t _ q)).trans j,A.bp (fun k z=>by simp[Value.ownBlock]at z;subst z;exact t _ s) N,s⟩,q,a2,B,E,I,J,L⟩
theorem dI.ad {F:Nat→Prop}{w j:World}{ib:Nat}{ts:ao}{n:Int}(h:dI F w ib ts n)(q:ae w j):dI F j ib ts n:=
 h.a4 (q.av (fun _=>False)) (fun _ _ h=>h)
theorem dI.room {F:Nat→Prop}{w:World}{ib:Nat}{ts:ao}{n:Int}(h:dI F w ib ts n):∃e:Nat,ts[e]?=some none:=
 sw (by have:=h.hQ;have:=h.e1;omega)
theorem mi {F:Nat→Prop}{w:World}{ib:Nat}{ts:ao}{n:Int}(h:dI F w ib ts n)(r:Rec)(t:r.ok)(D:Nat)(j:Ends bl ts r D) :
  Calls Tryz.prog 200 #[.pointer (some ⟨ib,0,none⟩),.agg #[.int .u8 r.al,.int .u8 r.I,.int .u8 r.J,.int .u8 r.lo.tag,.int .u32 r.lo.to,.int .u8 r.hi.tag,.int .u32 r.hi.to]] w fun e w'=>e=.returned (.int .i64 (((bl r ts.length+D)%ts.length:Nat):Int))∧ae w w':=by
 obtain⟨p,s⟩:=h.hZ
 obtain⟨A,cap,q,B,_,_,z,_⟩:=h.open
 exact xP ib A ts.length cap p D r t ts w q h.e1 h.hG s z rfl j.lt j.go j.stop
theorem rq {F:Nat→Prop}{w:World}{ib:Nat}{ts:ao}{n:Int}(h:dI F w ib ts n)(r x:Rec)(k:Nat)(c:Option (Rec×Int))(id:Int)(b:Bool)(s:ts[k]?=some c)(z:bj c=df x++[.int .u32 id,.bool b])
  (O:∀j,ae w j→Calls Tryz.prog 200 #[.pointer (some ⟨ib,0,none⟩),.agg #[.int .u8 r.al,.int .u8 r.I,.int .u8 r.J,.int .u8 r.lo.tag,.int .u32 r.lo.to,.int .u8 r.hi.tag,.int .u32 r.hi.to]] j fun e w'=>e=.returned (.int .i64 (k:Int))∧ae j w') :
  Calls Tryz.prog 135 #[.pointer (some ⟨ib,0,none⟩),.agg #[.int .u8 r.al,.int .u8 r.I,.int .u8 r.J,.int .u8 r.lo.tag,.int .u32 r.lo.to,.int .u8 r.hi.tag,.int .u32 r.hi.to]] w fun e w'=>e=.returned (.tuple #[.int .u32 (if b then id else 0),.bool b])∧ae w w':=by
 obtain⟨q,cap,t,A,_,E,j,B,_⟩:=h.open
 have S:=(List.getElem?_eq_some_iff.1 s).1
 have j:=j k c s
 rw[z]at j
 have s:w.cell? ⟨q,k*9,none⟩=some (.int .u8 x.al):=j 0 (by omega)
 have z:w.cell? ⟨q,k*9+1,none⟩=some (.int .u8 x.I):=j 1 (by omega)
 have A:w.cell? ⟨q,k*9+2,none⟩=some (.int .u8 x.J):=j 2 (by omega)
 have B:w.cell? ⟨q,k*9+3,none⟩=some (.int .u8 x.lo.tag):=j 3 (by omega)
 have E:w.cell? ⟨q,k*9+4,none⟩=some (.int .u32 x.lo.to):=j 4 (by omega)
 have I:w.cell? ⟨q,k*9+5,none⟩=some (.int .u8 x.hi.tag):=j 5 (by omega)
 have J:w.cell? ⟨q,k*9+6,none⟩=some (.int .u32 x.hi.to):=j 6 (by omega)
 have L:w.cell? ⟨q,k*9+7,none⟩=some (.int .u32 id):=j 7 (by omega)
 have N:w.cell? ⟨q,k*9+8,none⟩=some (.bool b):=j 8 (by omega)
 exact yw ib q ts.length cap k r x id b w t h.hG S s z A B E I J L N O
theorem rr {F:Nat→Prop}{w:World}{ib:Nat}{ts:ao}{n:Int}(h:dI F w ib ts n)(r:Rec)(I:r.ok)(o:Option Int)(B:∀id,ao.has ts r id↔o=some id) :
  Calls Tryz.prog 135 #[.pointer (some ⟨ib,0,none⟩),.agg #[.int .u8 r.al,.int .u8 r.I,.int .u8 r.J,.int .u8 r.lo.tag,.int .u32 r.lo.to,.int .u8 r.hi.tag,.int .u32 r.hi.to]] w fun e w'=>e=.returned (.tuple #[.int .u32 (o.getD 0),.bool o.isSome])∧ae w w':=by
 obtain⟨D,t⟩:=me (H:=bl) r h.room
 have A:∀s,ae w s→Calls Tryz.prog 200 #[.pointer (some ⟨ib,0,none⟩),.agg #[.int .u8 r.al,.int .u8 r.I,.int .u8 r.J,.int .u8 r.lo.tag,.int .u32 r.lo.to,.int .u8 r.hi.tag,.int .u32 r.hi.to]] s fun e w'=>e=.returned (.int .i64 (((bl r ts.length+D)%ts.length:Nat):Int))∧ae s w':=fun s s=>mi (h.ad s) r I D t
 rcases t.stop with q|⟨id,q⟩
 ·have z:o=none:=by
   cases E:o with
   |none=>rfl
   |some id=>
    have:=t.gj h.ok ((B id).2 E);rw[q]at this;simp at this
  subst z;exact(rq h r Rec.zero _ none 0 false q rfl A).mono fun e w' j=>⟨j.1,j.2⟩
 ·have z:o=some id:=(B id).1 ⟨_,q⟩;subst z;exact(rq h r r _ (some (r,id)) id true q rfl A).mono fun e w' j=>⟨j.1,j.2⟩
theorem rA:(Tryz.prog.info? 274).map (fun i=>(i.zero,i.size,i.bytes))=some (some (.agg #[.int .u8 0,.int .u8 0,.int .u8 0,.int .u8 0,.int .u32 0,.int .u8 0,.int .u32 0,.int .u32 0,.bool false]),9,28):=by kernel_rfl
theorem rV (n:Nat):(madeCells (Value.agg #[.int .u8 0,.int .u8 0,.int .u8 0,.int .u8 0,.int .u32 0,.int .u8 0,.int .u32 0,.int .u32 0,.bool false]).cells (n*9)).toList=(List.replicate n (none:Option (Rec×Int))).flatMap bj:=by
 apply List.ext_getElem?;intro j;by_cases t:j<n*9
 ·have z:j / 9<n:=by omega
  have s:(List.replicate n (none:Option (Rec×Int)))[j / 9]?=some none:=by simp[z]
  have:=en bj 9 fC (List.replicate n none) (j / 9) (j%9) none s (by omega);rw[show j / 9*9+j%9=j by omega]at this;rw[this];have q:j%9<9:=by omega
  simp only[madeCells,Array.getElem?_toList,Array.getElem?_map,Value.cells];rw[Array.getElem?_eq_getElem (by simpa using t)];simp only[Array.getElem_range,Option.map_some];generalize j%9=m at q;match m,q with
  |0,_=>rfl
  |1,_=>rfl
  |2,_=>rfl
  |3,_=>rfl
  |4,_=>rfl
  |5,_=>rfl
  |6,_=>rfl
  |7,_=>rfl
  |8,_=>rfl
 ·rw[cO (by simp[madeCells];omega),cO (by rw[ou bj 9 fC];simp;omega)]
structure eC (w:World)(ib:Nat)(ts:ao)(n:Int)(i:Nat)(nt:ao)(wr:World):Prop where
 len:nt.length=2*ts.length
 ok:eN bl nt
 has:∀r id,ao.has nt r id↔∃j,j<i∧ao.at ts j r id
 g6:occ nt=occ (ts.take i)
 heap:wr.heap[ib]?=some (.cells #[.slice (some ⟨w.heap.size,0,none⟩) (2*ts.length) (2*ts.length),.int .i64 n] 255 (0,0))
 row:wr.ownsRow 0 274 9 (.slice (some ⟨w.heap.size,0,none⟩) (2*ts.length) (2*ts.length)) (2*ts.length) (nt.flatMap bj)
 av:af (fun k=>k=ib) w wr
theorem sF {w:World}{b b':Nat}{e:TypeId}{size:Nat}{v:Value}{n:Nat}{xs:List Value}(h:w.ownsRow b e size v n xs)(j:b'≤b):w.ownsRow b' e size v n xs:=by
 refine⟨h.1,?_⟩;rcases h.2 with j|⟨g,cap,q,s,j,t⟩;·exact .inl j
 ·exact .inr ⟨g,cap,q,s,by omega,t⟩
theorem eC.start {w w1:World}{ib:Nat}{ts:ao}{n:Int}{v:Value}(s:w.heap[ib]?=some (.cells #[v,.int .i64 n] 255 (0,0)))
  (t:w1.ownsRow w.heap.size 274 9 (.slice (some ⟨w.heap.size,0,none⟩) (2*ts.length) (2*ts.length)) (2*ts.length) (madeCells (Value.agg #[.int .u8 0,.int .u8 0,.int .u8 0,.int .u8 0,.int .u32 0,.int .u8 0,.int .u32 0,.int .u32 0,.bool false]).cells (2*ts.length*9)).toList)
  (q:w.grownBy w1 none) :
  eC w ib ts n 0 (List.replicate (2*ts.length) none) (w1.setCell ⟨ib,0,none⟩ (.slice (some ⟨w.heap.size,0,none⟩) (2*ts.length) (2*ts.length))):=by
 obtain⟨z,A,B⟩:=eN.empty bl (2*ts.length)
 have I:=aM s
 have E:w1.heap[ib]?=some (.cells #[v,.int .i64 n] 255 (0,0)):=(q.block ib I (by simp)).trans s
 refine⟨by simp,z,fun r id=>⟨fun h=>(B r id h).elim,fun⟨z,s,_⟩=>by omega⟩,by rw[A];simp[occ],?_,?_,?_⟩
 ·exact heap_setCell_same w1 ib 0 _ _ _ E
 ·rw[rV]at t;refine af.bp (F:=fun k=>k=ib) (af.setCell (F:=fun k=>k=ib) (p:=⟨ib,0,none⟩) (af.refl _ _) (Or.inl rfl) _) (fun k j=>?_) (sF t (Nat.zero_le _));simp[Value.ownBlock]at j;omega
 ·exact af.setCell (F:=fun k=>k=ib) (p:=⟨ib,0,none⟩) (af.b8 (af.refl _ _) q (fun k j=>by simp at j)) (Or.inl rfl) _
theorem eC.skip {w wr s:World}{ib:Nat}{ts t:ao}{n:Int}{i:Nat}(h:eC w ib ts n i t wr)(q:ae wr s)(hi:ts[i]?=some none):eC w ib ts n (i+1) t s:=by
 obtain⟨s,a2,t,z,A,B,E⟩:=h;refine⟨s,a2,fun r id=>(t r id).trans ⟨fun⟨j,s,h⟩=>⟨j,by omega,h⟩,fun⟨j,s,h⟩=>⟨j,?_,h⟩⟩,?_,q.heap A,q.bp B,E.bg (q.av _)⟩
 ·rcases Nat.lt_or_ge j i with q|s;·exact q
  ·have:j=i:=(by omega);subst this;unfold ao.at at h;rw[hi]at h;simp at h
 ·rw[z,List.take_add_one,hi];simp[occ,List.countP_append]
theorem eC.step {w wr B:World}{ib:Nat}{ts s:ao}{n:Int}{i:Nat}(h:eC w ib ts n i s wr)(z:ae wr B){r:Rec}{id:Int}(hi:ts[i]?=some (some (r,id))){D:Nat}
  (J:Ends bl s r D) (a3:eN bl ts) (k:Nat) (A:k=(bl r s.length+D)%s.length) :
  eC w ib ts n (i+1) (s.set k (some (r,id))) (dO B w.heap.size (k*9) (bj (some (r,id)))):=by
 obtain⟨O,a2,E,ad,I,S,T⟩:=h
 have Z:k<s.length:=by rw[A];exact bU _ (by have:=J.lt;omega)
 have a1:s[k]?=some none:=by
  rcases J.stop with L|⟨t,L⟩;·rw[A];exact L
  ·obtain⟨q,Y,j⟩:=(E r t).1 ⟨_,L⟩;have:=a3.c8 q i r t id j hi;omega
 obtain⟨U,W,X⟩:=a2.put J (A ▸ a1) id
 rw[←A]at U W X
 have al:=aM I
 have aw:ib≠w.heap.size:=by
  obtain⟨s,am⟩:=bF S (k:=w.heap.size) rfl;exact de I am (by decide)
 have ab:=jH w.heap.size (bj (some (r,id))) (k*9) B
 refine⟨by rw[bZ,O],U,fun N t=>(X N t).trans ⟨?_,?_⟩,?_,?_,?_,?_⟩
 ·rintro(⟨rfl,rfl⟩|av);·exact⟨i,by omega,hi⟩
  ·obtain⟨q,Y,j⟩:=(E N t).1 av;exact⟨q,by omega,j⟩
 ·rintro⟨q,Y,j⟩;rcases Nat.lt_or_ge q i with Z|s;·exact .inr ((E N t).2 ⟨q,Z,j⟩)
  ·have:q=i:=(by omega);subst this;unfold ao.at at j;rw[hi]at j;simp at j;exact .inl ⟨j.1.symm,j.2.symm⟩
 ·rw[W,ad,List.take_add_one,hi];simp[occ,List.countP_append]
 ·exact(ab.block ib (bI al z.size) aw).trans (z.heap I)
 ·exact kH bj fC O (z.bp S) k (by omega) (some (r,id))
 ·refine(T.bg (z.av _)).trans ((ab.mono (fun j a0 e=>?_)));subst e;have:=T.size;have:=z.size;exact .inr ⟨aE _,a0⟩
theorem sy (ts:ao)(i:Nat):occ (ts.take i)≤i∧occ (ts.take i)≤ts.length:=by
 have j:occ (ts.take i)≤(ts.take i).length:=List.countP_le_length;have j:(ts.take i).length=min i ts.length:=iV;omega
theorem eC.a8 {w wr:World}{ib:Nat}{ts j:ao}{n:Int}{i:Nat}(h:eC w ib ts n i j wr){p:Nat}(t:ts.length=2 ^ p)(A:8≤ts.length)(z:ts.length≤2097152)
  (q:∀r id,ao.has ts r id→r.ok∧0≤id∧id≤4294967295):dI (fun _=>True) wr ib j n:=by
 have j:=h.len
 have z:=h.g6
 have z:=sy ts i
 refine⟨⟨w.heap.size,2*ts.length,?_,?_,trivial⟩,trivial,⟨p+1,by rw[j,t,dd];omega⟩,by omega,by omega,by omega,h.ok,fun r id s=>?_⟩
 ·rw[j];exact h.heap
 ·rw[j];exact h.row
 ·obtain⟨t,_,j⟩:=(h.has r id).1 s;exact q r id ⟨t,j⟩
theorem eC.room {w wr:World}{ib:Nat}{ts j:ao}{n:Int}{i:Nat}(h:eC w ib ts n i j wr)(q:8≤ts.length):∃e:Nat,j[e]?=some none:=by
 have j:=h.len;have j:=h.g6;have j:=sy ts i;exact sw (by omega)
theorem eC.hK {w wr:World}{ib:Nat}{ts q:ao}{n:Int}{i:Nat}(h:eC w ib ts n i q wr)(J:eN bl ts){r:Rec}{id:Int}(hi:ts[i]?=some (some (r,id))){D:Nat}(t:Ends bl q r D){k:Nat}(B:k=(bl r q.length+D)%q.length) :
  k<2*ts.length∧(∀j,j<9→wr.cell? ⟨w.heap.size,k*9+j,none⟩=(bj none)[j]?)∧(∀j,wr.frozen? ⟨w.heap.size,j,none⟩=false)∧w.heap.size<wr.heap.size∧w.heap.size≠ib:=by
 have L:=h.len
 have L:k<q.length:=by rw[B];exact bU _ (by have:=t.lt;omega)
 have I:q[k]?=some none:=by
  rcases t.stop with s|⟨E,s⟩;·rw[B];exact s
  ·obtain⟨j,A,t⟩:=(h.has r E).1 ⟨_,s⟩;have:=J.c8 j i r E id t hi;omega
 obtain⟨s,z⟩:=bF h.row (k:=w.heap.size) rfl
 exact⟨by omega,fun j A=>(h.row.cellAt (k*9+j) (by omega)).trans (en bj 9 fC q k j none I A),fun j=>h.row.frozenAt j,aM z,de z h.heap (by decide)⟩
theorem yb {F:Nat→Prop}{w:World}{ib:Nat}{ts:ao}{n:Int}(j cap p:Nat)(N:w.heap[ib]?=some (.cells #[.slice (some ⟨j,0,none⟩) ts.length cap,.int .i64 n] 255 (0,0)))
  (a5:w.ownsRow 0 274 9 (.slice (some ⟨j,0,none⟩) ts.length cap) ts.length (ts.flatMap bj)) (a4:ts.length=2 ^ p) (av:8≤ts.length) (bt:ts.length≤2097152)
  (a1:eN bl ts) (a0:∀r id,ao.has ts r id→r.ok∧0≤id∧id≤4294967295) :
  Calls Tryz.prog 203 #[.pointer (some ⟨ib,0,none⟩)] w fun e w'=>e=.returned (.tuple #[])∧∃E,eC w ib ts n ts.length E w':=by
 have O:w.cell? ⟨ib,0,none⟩=some (.slice (some ⟨j,0,none⟩) ts.length cap):=by rw[cell_of_row w ib 0 _ _ _ N];rfl
 have am:w.frozen? ⟨ib,0,none⟩=false:=frozen_of_row w ib 0 _ _ N
 have bD:=aM N
 obtain⟨b9,hi,b6,b7,b8⟩:=info_parts rA
 have ad:=aa N
 have a8:=aa a4
 clear N a4
 go_enter Tryz.func203,Tryz.ntmps203
 go_wp2_with (at_make;refine wpList_make_full _ rfl (.tmp 12) (.tmp 12) 253 rfl w.heap.size 274 b9 _ 9 Tryz.underlying253 hi b6 b7 .i64 .i64 (2*(ts.length:Int)) (2*(ts.length:Int)) (2*ts.length) rfl rfl (by omega) (by omega) (by rw[b8];omega) (by unfold maxLen;omega) (aE _) ?_;intro w1 a3 T;have bb:=jd (o:=0) T (by simp) O;have bs:=lh (o:=0) T bD (by simp) am)
 have b4:=eC.start (ts:=ts) (n:=n) ad.out a3 T
 have ab:=aa a0
 have Y:=aa a5
 have al:=aa a1
 clear a3 T bb bs a0 a5 O am a1
 go_loopg [18] ts.length (fun gk v wr=>∃(i:Nat) (E:ao),i+gk=ts.length∧v=.int .i64 (i:Int)∧eC w ib ts n i E wr)
 case atStart=>exact⟨0,_,by omega,rfl,b4⟩
 case round=>
  obtain⟨i,E,U,rfl,B⟩:=hrel;by_cases bx:gk=0
  ·subst bx;have e:¬(i:Int)<(ts.length:Int):=(by omega);obtain rfl:i=ts.length:=(by omega);go_wp2;go_end0;exact⟨rfl,E,B⟩
  ·have e:(i:Int)<(ts.length:Int):=(by omega);have b1:i<ts.length:=(by omega);obtain⟨c,L⟩:∃c,ts[i]?=some c:=⟨_,ar b1⟩;have N:=aM (bF Y.out (k:=j) rfl).choose_spec
   have a6:j≠ib:=by
    obtain⟨N,bv⟩:=bF Y.out (k:=j) rfl;exact de bv ad.out (by decide)
   have Z:=B.av.bp (fun k b0=>by simp[Value.ownBlock]at b0;omega) Y.out;have q:=fun I (N:I<9)=>(Z.cellAt (i*9+I) (by omega)).trans (en bj 9 fC ts i I c L N);cases c with
   |none=>
    have bd:wr.cell? ⟨j,i*9,none⟩=some (.int .u8 0):=q 0 (by omega);have be:wr.cell? ⟨j,i*9+1,none⟩=some (.int .u8 0):=q 1 (by omega);have bf:wr.cell? ⟨j,i*9+2,none⟩=some (.int .u8 0):=q 2 (by omega);have bg:wr.cell? ⟨j,i*9+3,none⟩=some (.int .u8 0):=q 3 (by omega);have bi:wr.cell? ⟨j,i*9+4,none⟩=some (.int .u32 0):=q 4 (by omega);have bn:wr.cell? ⟨j,i*9+5,none⟩=some (.int .u8 0):=q 5 (by omega);have bp:wr.cell? ⟨j,i*9+6,none⟩=some (.int .u32 0):=q 6 (by omega);have bq:wr.cell? ⟨j,i*9+7,none⟩=some (.int .u32 0):=q 7 (by omega);have br:wr.cell? ⟨j,i*9+8,none⟩=some (.bool false):=q 8 (by omega);have J:=aa L;have X:=aa U;clear q Z L U a6;go_wp2;go_roundg (gk-1)
    case rel=>exact⟨i+1,E,by have:=X.out;omega,by go_num,B.skip kp J.out⟩
    case measure=>omega
   |some c=>
    obtain⟨r,id⟩:=c;have bd:wr.cell? ⟨j,i*9,none⟩=some (.int .u8 r.al):=q 0 (by omega);have be:wr.cell? ⟨j,i*9+1,none⟩=some (.int .u8 r.I):=q 1 (by omega);have bf:wr.cell? ⟨j,i*9+2,none⟩=some (.int .u8 r.J):=q 2 (by omega);have bg:wr.cell? ⟨j,i*9+3,none⟩=some (.int .u8 r.lo.tag):=q 3 (by omega);have bi:wr.cell? ⟨j,i*9+4,none⟩=some (.int .u32 r.lo.to):=q 4 (by omega);have bn:wr.cell? ⟨j,i*9+5,none⟩=some (.int .u8 r.hi.tag):=q 5 (by omega);have bp:wr.cell? ⟨j,i*9+6,none⟩=some (.int .u32 r.hi.to):=q 6 (by omega);have bq:wr.cell? ⟨j,i*9+7,none⟩=some (.int .u32 id):=q 7 (by omega);have br:wr.cell? ⟨j,i*9+8,none⟩=some (.bool true):=q 8 (by omega);have J:=aa L;have X:=aa U;clear q Z L U a6;have b3:=B.a8 a8.out av bt ab.out;have b2:r.ok:=(ab.out r id ⟨i,J.out⟩).1;obtain⟨D,S⟩:=me (H:=bl) r (B.room av);obtain⟨k,W⟩:∃k:Nat,k=(bl r E.length+D)%E.length:=⟨_,rfl⟩;obtain⟨j,q,bw,b5,L⟩:=B.hK al.out J.out S W
    have aw:∀j,ae wr j→Calls Tryz.prog 200 #[.pointer (some ⟨ib,0,none⟩),.agg #[.int .u8 r.al,.int .u8 r.I,.int .u8 r.J,.int .u8 r.lo.tag,.int .u32 r.lo.to,.int .u8 r.hi.tag,.int .u32 r.hi.to]] j fun e w'=>e=.returned (.int .i64 (k:Int))∧ae j w':=fun j j=>by
     rw[W];exact mi (b3.ad j) r b2 D S
    have a7:=aa S;have a':=aa W;have A:=aa q;have H:=aa aw;have j:(k:Int)<2*(ts.length:Int):=(by omega);have j:w.heap.size≠wr.heap.size:=(by omega);have O:wr.cell? ⟨ib,0,none⟩=some (.slice (some ⟨w.heap.size,0,none⟩) (2*ts.length) (2*ts.length)):=(by rw[cell_of_row wr ib 0 _ _ _ B.heap];rfl);have j:ib<wr.heap.size:=aM B.heap;clear S W q aw;go_wp2_with fail;go_region_held3 (fun w'=>w'.cell? ⟨ib,0,none⟩=some (.slice (some ⟨w.heap.size,0,none⟩) (2*ts.length) (2*ts.length))∧(w'.cell? ⟨wr.heap.size,0,none⟩=some (.int .u8 r.al)∧w'.cell? ⟨wr.heap.size,1,none⟩=some (.int .u8 r.I)∧w'.cell? ⟨wr.heap.size,2,none⟩=some (.int .u8 r.J)∧w'.cell? ⟨wr.heap.size,3,none⟩=some (.int .u8 r.lo.tag)∧w'.cell? ⟨wr.heap.size,4,none⟩=some (.int .u32 r.lo.to)∧w'.cell? ⟨wr.heap.size,5,none⟩=some (.int .u8 r.hi.tag)∧w'.cell? ⟨wr.heap.size,6,none⟩=some (.int .u32 r.hi.to)∧w'.cell? ⟨wr.heap.size,7,none⟩=some (.int .u32 id)∧w'.cell? ⟨wr.heap.size,8,none⟩=some (.bool true))) (go_keep) ((first|(go_at_call 200;refine(H.out _ kp).mono ?_;rintro e s ⟨rfl,j⟩;have z:ae (wr.alloc (.cells #[.int .u8 r.al,.int .u8 r.I,.int .u8 r.J,.int .u8 r.lo.tag,.int .u32 r.lo.to,.int .u8 r.hi.tag,.int .u32 r.hi.to,.int .u32 id,.bool true] 274)) s:=kp;have t:ae wr s:=(((ae.refl _).alloc _).trans z);have j:=t.cell O;have j:s.cell? ⟨wr.heap.size,0,none⟩=some (.int .u8 r.al):=z.cell (by simp);have j:s.cell? ⟨wr.heap.size,1,none⟩=some (.int .u8 r.I):=z.cell (by simp);have j:s.cell? ⟨wr.heap.size,2,none⟩=some (.int .u8 r.J):=z.cell (by simp);have j:s.cell? ⟨wr.heap.size,3,none⟩=some (.int .u8 r.lo.tag):=z.cell (by simp);have j:s.cell? ⟨wr.heap.size,4,none⟩=some (.int .u32 r.lo.to):=z.cell (by simp);have j:s.cell? ⟨wr.heap.size,5,none⟩=some (.int .u8 r.hi.tag):=z.cell (by simp);have j:s.cell? ⟨wr.heap.size,6,none⟩=some (.int .u32 r.hi.to):=z.cell (by simp);have j:s.cell? ⟨wr.heap.size,7,none⟩=some (.int .u32 id):=z.cell (by simp);have j:s.cell? ⟨wr.heap.size,8,none⟩=some (.bool true):=z.cell (by simp);have j:s.cell? ⟨w.heap.size,k*9,none⟩=some (.int .u8 0):=t.cell (A.out 0 (by omega));have j:s.cell? ⟨w.heap.size,k*9+1,none⟩=some (.int .u8 0):=t.cell (A.out 1 (by omega));have j:s.cell? ⟨w.heap.size,k*9+2,none⟩=some (.int .u8 0):=t.cell (A.out 2 (by omega));have j:s.cell? ⟨w.heap.size,k*9+3,none⟩=some (.int .u8 0):=t.cell (A.out 3 (by omega));have j:s.cell? ⟨w.heap.size,k*9+4,none⟩=some (.int .u32 0):=t.cell (A.out 4 (by omega));have j:s.cell? ⟨w.heap.size,k*9+5,none⟩=some (.int .u8 0):=t.cell (A.out 5 (by omega));have j:s.cell? ⟨w.heap.size,k*9+6,none⟩=some (.int .u32 0):=t.cell (A.out 6 (by omega));have j:s.cell? ⟨w.heap.size,k*9+7,none⟩=some (.int .u32 0):=t.cell (A.out 7 (by omega));have j:s.cell? ⟨w.heap.size,k*9+8,none⟩=some (.bool false):=t.cell (A.out 8 (by omega));have j:∀I,s.frozen? ⟨w.heap.size,I,none⟩=false:=(fun I=>(Below.frozen (p:=⟨w.heap.size,I,none⟩) t b5).trans (bw I)))))
    go_wp2;go_roundg (gk-1)
    case rel=>exact⟨i+1,E.set k (some (r,id)),by have:=X.out;omega,by go_num,B.step t J.out a7.out al.out k a'.out⟩
    case measure=>omega
structure iy (w:World)(ib tb cap:Nat)(ts:ao)(n:Int)(k:Nat)(r:Rec)(id:Int)(W:World):Prop where
 heap:W.heap[ib]?=some (.cells #[.slice (some ⟨tb,0,none⟩) ts.length cap,.int .i64 (n+1)] 255 (0,0))
 row:W.ownsRow 0 274 9 (.slice (some ⟨tb,0,none⟩) ts.length cap) ts.length ((ts.set k (some (r,id))).flatMap bj)
 av:af (fun x=>x=ib∨x=tb) w W
theorem iy.ad {w:World}{ib s cap:Nat}{ts:ao}{n:Int}{k:Nat}{r:Rec}{id:Int}{q W':World}(h:iy w ib s cap ts n k r id q)(j:ae q W'):iy w ib s cap ts n k r id W':=
 ⟨j.heap h.heap,j.bp h.row,h.av.bg (j.av _)⟩
theorem iy.hE {w w1:World}{ib j cap:Nat}{ts:ao}{n:Int}(s:w.heap[ib]?=some (.cells #[.slice (some ⟨j,0,none⟩) ts.length cap,.int .i64 n] 255 (0,0)))
  (t:w.ownsRow 0 274 9 (.slice (some ⟨j,0,none⟩) ts.length cap) ts.length (ts.flatMap bj)) (q:ae w w1) {k:Nat} (E:k<ts.length) (r:Rec) (id:Int) :
  iy w ib j cap ts n k r id ((dO w1 j (k*9) (bj (some (r,id)))).setCell ⟨ib,1,none⟩ (.int .i64 (n+1))):=by
 obtain⟨L,B⟩:=bF t (k:=j) rfl
 have I:j≠ib:=de B s (by decide)
 have z:=jH j (bj (some (r,id))) (k*9) w1
 have A:=kH bj fC rfl (q.bp t) k E (some (r,id))
 have t:=(z.block ib (bI (aM s) q.size) (fun e=>I e.symm)).trans (q.heap s)
 refine⟨heap_setCell_same _ ib 1 _ _ _ t,?_,?_⟩
 ·exact af.bp (F:=fun x=>x=ib) (af.setCell (F:=fun x=>x=ib) (p:=⟨ib,1,none⟩) (af.refl _ _) (Or.inl rfl) _) (fun x J=>by simp[Value.ownBlock]at J;omega) A
 ·exact af.setCell (F:=fun x=>x=ib∨x=j) (p:=⟨ib,1,none⟩) ((q.av _).bg (z.mono (fun x _ e=>.inr e))) (Or.inl (.inl rfl)) _
theorem yJ {w:World}{ib j cap:Nat}{ts:ao}{n:Int}(z:w.heap[ib]?=some (.cells #[.slice (some ⟨j,0,none⟩) ts.length cap,.int .i64 n] 255 (0,0)))
  (A:w.ownsRow 0 274 9 (.slice (some ⟨j,0,none⟩) ts.length cap) ts.length (ts.flatMap bj)) (av:ts.length≤4194304) (a3:0≤n) (a4:n≤1048576) (k:Nat) (aw:k<ts.length) (r:Rec) (id:Int) (O:ts[k]?=some none)
  (R:World→World→Prop) (L:∀q,iy w ib j cap ts n k r id q→2*(n+1)≤(ts.length:Int)→R q q)
  (J:∀q,iy w ib j cap ts n k r id q→(ts.length:Int)<2*(n+1)→Calls Tryz.prog 203 #[.pointer (some ⟨ib,0,none⟩)] q fun e w'=>e=.returned (.tuple #[])∧R q w')
  (N:∀q,ae w q→Calls Tryz.prog 200 #[.pointer (some ⟨ib,0,none⟩),.agg #[.int .u8 r.al,.int .u8 r.I,.int .u8 r.J,.int .u8 r.lo.tag,.int .u32 r.lo.to,.int .u8 r.hi.tag,.int .u32 r.hi.to]] q fun e w'=>e=.returned (.int .i64 (k:Int))∧ae q w') :
  Calls Tryz.prog 138 #[.pointer (some ⟨ib,0,none⟩),.agg #[.int .u8 r.al,.int .u8 r.I,.int .u8 r.J,.int .u8 r.lo.tag,.int .u32 r.lo.to,.int .u8 r.hi.tag,.int .u32 r.hi.to],.int .u32 id] w fun e w'=>e=.returned (.tuple #[.int .u32 0,.bool false])∧∃q,iy w ib j cap ts n k r id q∧R q w':=by
 have X:w.cell? ⟨ib,0,none⟩=some (.slice (some ⟨j,0,none⟩) ts.length cap):=by rw[cell_of_row w ib 0 _ _ _ z];rfl
 have Y:w.cell? ⟨ib,1,none⟩=some (.int .i64 n):=by rw[cell_of_row w ib 1 _ _ _ z];rfl
 have Z:w.frozen? ⟨ib,1,none⟩=false:=frozen_of_row w ib 1 _ _ z
 have am:=aM z
 obtain⟨q,E⟩:=bF A (k:=j) rfl
 have a1:=aM E
 have q:ib≠j:=de z E (by decide)
 have av:j≠ib:=q.symm
 have ad:∀s,w.frozen? ⟨j,s,none⟩=false:=fun s=>A.frozenAt s
 have q:=fun s (av:s<9)=>(A.cellAt (k*9+s) (by omega)).trans (en bj 9 fC ts k s none O av)
 have av:(k:Int)<(ts.length:Int):=by omega
 have T:=aa z
 have W:=aa A
 have t:=aa q
 have H:=aa N
 have U:=aa L
 have S:=aa J
 clear E z A q O N L J
 go_enter Tryz.func138,Tryz.ntmps138
 go_wp2_with (first|(go_at_call 200;refine(H.out _ kp).mono ?_;rintro e w1 ⟨rfl,ab⟩;obtain⟨q,z,A,E,J,L,N⟩:=dL (w:=w) (w1:=w1) (show ae (w.alloc (.cells #[.int .u8 r.al,.int .u8 r.I,.int .u8 r.J,.int .u8 r.lo.tag,.int .u32 r.lo.to,.int .u8 r.hi.tag,.int .u32 r.hi.to] 199)) w1 from kp);have q:ae w w1:=(((ae.refl _).alloc _).trans ab);have z:=q.cell X;have z:=q.cell Y;have z:=(Below.frozen (p:=⟨ib,1,none⟩) q am).trans Z;have z:∀s,w1.frozen? ⟨j,s,none⟩=false:=(fun s=>(Below.frozen (p:=⟨j,s,none⟩) q a1).trans (ad s));have s:w1.cell? ⟨j,k*9,none⟩=some (.int .u8 0):=q.cell (t.out 0 (by omega));have s:w1.cell? ⟨j,k*9+1,none⟩=some (.int .u8 0):=q.cell (t.out 1 (by omega));have s:w1.cell? ⟨j,k*9+2,none⟩=some (.int .u8 0):=q.cell (t.out 2 (by omega));have s:w1.cell? ⟨j,k*9+3,none⟩=some (.int .u8 0):=q.cell (t.out 3 (by omega));have s:w1.cell? ⟨j,k*9+4,none⟩=some (.int .u32 0):=q.cell (t.out 4 (by omega));have s:w1.cell? ⟨j,k*9+5,none⟩=some (.int .u8 0):=q.cell (t.out 5 (by omega));have s:w1.cell? ⟨j,k*9+6,none⟩=some (.int .u32 0):=q.cell (t.out 6 (by omega));have s:w1.cell? ⟨j,k*9+7,none⟩=some (.int .u32 0):=q.cell (t.out 7 (by omega));have s:w1.cell? ⟨j,k*9+8,none⟩=some (.bool false):=q.cell (t.out 8 (by omega)))|fail)
 have I:=iy.hE (n:=n) T.out W.out q aw r id
 simp only[dO,bj,df,List.cons_append,List.nil_append]at I
 have B:=aa I
 clear I
 have q:w.heap.size≠j:=by omega
 have j:w.heap.size≠ib:=by omega
 go_region
 go_wp2
 by_cases al:(ts.length:Int)<2*(n+1)
 ·go_quiet (fail);go_wp2_with (first|(go_at_call 203;refine(S.out _ (B.out.ad kp) al).mono ?_;rintro e j ⟨rfl,a0⟩)|fail)
  go_ret2;exact⟨rfl,_,B.out.ad kp,a0⟩
 ·go_quiet (fail);go_wp2;go_ret2;exact⟨rfl,_,B.out.ad kp,U.out _ (B.out.ad kp) (by omega)⟩
theorem yA {F:Nat→Prop}{w:World}{ib:Nat}{ts:ao}{n:Int}(h:dI F w ib ts n)(bi:n=(occ ts:Int))(bn:occ ts<1048576)(r:Rec)(av:r.ok)(id:Int)(a':0≤id)(bb:id≤4294967295)(be:∀j,¬ao.has ts r j) :
  Calls Tryz.prog 138 #[.pointer (some ⟨ib,0,none⟩),.agg #[.int .u8 r.al,.int .u8 r.I,.int .u8 r.J,.int .u8 r.lo.tag,.int .u32 r.lo.to,.int .u8 r.hi.tag,.int .u32 r.hi.to],.int .u32 id] w fun e w'=>e=.returned (.tuple #[.int .u32 0,.bool false])∧af F w w' ∧
   ∃ab,dI (aC F w w') w' ib ab (n+1)∧n+1=(occ ab:Int)∧∀s j,ao.has ab s j↔(s=r∧j=id)∨ao.has ts s j:=by
 obtain⟨D,U⟩:=me (H:=bl) r h.room
 obtain⟨k,J⟩:∃k:Nat,k=(bl r ts.length+D)%ts.length:=⟨_,rfl⟩
 have a8:∀q,ae w q→Calls Tryz.prog 200 #[.pointer (some ⟨ib,0,none⟩),.agg #[.int .u8 r.al,.int .u8 r.I,.int .u8 r.J,.int .u8 r.lo.tag,.int .u32 r.lo.to,.int .u8 r.hi.tag,.int .u32 r.hi.to]] q fun e w'=>e=.returned (.int .i64 (k:Int))∧ae q w':=fun q A=>by
  rw[J];exact mi (h.ad A) r av D U
 have bd:k<ts.length:=by rw[J];exact bU _ (by have:=U.lt;omega)
 have E:ts[k]?=some none:=by
  rcases U.stop with E|⟨j,E⟩;·rw[J];exact E
  ·exact(be j ⟨_,E⟩).elim
 obtain⟨W,ab,T⟩:=h.ok.put U (J ▸ E) id
 rw[←J]at W ab T
 obtain⟨⟨Z,cap,a3,a4,ad⟩,S,⟨p,a2⟩,J,a0,U,ab,a1⟩:=h
 have bf:∀x,x=ib∨x=Z→F x:=fun x L=>by rcases L with rfl|rfl;exact S;exact ad
 have z:(ts.set k (some (r,id))).length=ts.length:=bZ
 have X:∀s j,ao.has (ts.set k (some (r,id))) s j→s.ok∧0≤j∧j≤4294967295:=fun s j I=>by
  rcases(T s j).1 I with⟨rfl,rfl⟩|I
  ·exact⟨av,a',bb⟩
  ·exact a1 s j I
 refine(yJ a3 a4 a0 (by omega) (by omega) k bd r id E (fun q w'=>(q=w'∧2*(n+1)≤(ts.length:Int))∨((ts.length:Int)<2*(n+1)∧∃O,eC q ib (ts.set k (some (r,id))) (n+1) ts.length O w')) (fun q A am=>.inl ⟨rfl,am⟩) (fun q A al=>?_) a8).mono ?_
 ·refine(yb (F:=F) (w:=q) (ib:=ib) (ts:=ts.set k (some (r,id))) (n:=n+1) Z cap p (by rw[z];exact A.heap) (by rw[z];exact A.row) (by rw[z];exact a2) (by omega) (by omega) W X).mono ?_;rintro e w' ⟨rfl,O,t⟩;rw[z]at t;exact⟨rfl,.inr ⟨al,O,t⟩⟩
 ·rintro e w' ⟨rfl,q,A,a5⟩;have aw:af F w q:=A.av.mono (fun x _ L=>bf x L);rcases a5 with⟨rfl,am⟩|⟨al,O,t⟩
  ·refine⟨rfl,aw,ts.set k (some (r,id)),⟨⟨Z,cap,by rw[z];exact A.heap,by rw[z];exact A.row,.inl ad⟩,.inl S,⟨p,by rw[z];exact a2⟩,by omega,by omega,by omega,W,X⟩,by omega,T⟩
  ·have E:=t.g6;have Y:=t.len;rw[ic (by omega)]at E
   have a6:q.heap.size<w'.heap.size:=by
    obtain⟨E,a7⟩:=bF t.row (k:=q.heap.size) rfl;exact aM a7
   have bg:=A.av.size;refine⟨rfl,aw.bg (t.av.mono (fun x _ L=>by subst L;exact S)),O,⟨⟨q.heap.size,2*ts.length,?_,?_,.inr ⟨bg,a6⟩⟩,.inl S,⟨p+1,by rw[Y,z,a2,dd];omega⟩,by omega,by omega,by omega,t.ok,?_⟩,by omega,?_⟩
   ·rw[Y,z];have:=t.heap;rw[z]at this;exact this
   ·rw[Y,z];have:=t.row;rw[z]at this;exact this
   ·intro s j I;obtain⟨N,_,B⟩:=(t.has s j).1 I;exact X s j ⟨N,B⟩
   ·intro s j;rw[←T s j,t.has s j];constructor
    ·rintro⟨N,_,B⟩;exact⟨N,B⟩
    ·rintro⟨N,B⟩;exact⟨N,by have:=(List.getElem?_eq_some_iff.1 B).1;omega,B⟩
theorem yz (w:World) :
  Calls Tryz.prog 117 #[] w fun e w'=>∃ib,e=.returned (.pointer (some ⟨ib,0,none⟩))∧w.heap.size≤ib∧ae w w'∧dI (fun k=>w.heap.size≤k∧k<w'.heap.size) w' ib (List.replicate 8 none) 0:=by
 obtain⟨L,hi,E,I,J⟩:=info_parts rA
 go_enter Tryz.func117,Tryz.ntmps117
 go_wp2_with (at_make;refine wpList_make_full _ rfl _ _ 253 rfl w.heap.size 274 L _ 9 Tryz.underlying253 hi E I .i64 .i64 8 8 8 rfl rfl (by omega) (by omega) (by rw[J];omega) (by unfold maxLen;omega) (aE _) ?_;intro w1 q B)
 go_ret
 rw[rV]at q
 have j:ae w w1:=af.ad (F:=fun _=>False) ((af.refl _ w).b8 B (fun k j=>by simp at j)) (fun _ _ h=>h)
 obtain⟨B,A⟩:=bF q (k:=w.heap.size) rfl
 have B:=aM A
 obtain⟨s,t,z⟩:=eN.empty bl 8
 refine⟨w1.heap.size,rfl,j.size,j.alloc _,⟨⟨w.heap.size,8,?_,?_,?_⟩,?_,⟨3,rfl⟩,by simp,by simp,by rw[t];simp,s,fun r id h=>(z r id h).elim⟩⟩
 ·exact heap_alloc_new w1 _
 ·exact sF (q.alloc _) (Nat.zero_le _)
 ·simp;omega
 ·have:=j.size;simp;omega
end Go.Proofs.YtafkamlhimkbmaaGreat
