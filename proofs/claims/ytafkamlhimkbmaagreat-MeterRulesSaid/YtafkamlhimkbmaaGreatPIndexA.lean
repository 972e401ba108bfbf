/-
  Walks of package index.
-/
import Derived.Test.YtafkamlhimkbmaaGreatPFindA
import Derived.Deep.LoopGhost
namespace Go.Proofs.YtafkamlhimkbmaaGreat
set_option maxRecDepth 1000000
set_option maxHeartbeats 8000000
set_option linter.unusedSimpArgs false
set_option linter.unusedVariables false
open Go.RowKit
def iI (r:Rec):Int:=
 bits BinOp.xor IntKind.u64 (IntKind.u64.wrap (lS r*11400714819323198485)) (IntKind.u64.wrap (lS r*11400714819323198485) / 4294967296)
def bJ (r:Rec)(len:Nat):Nat:=(iI r).toNat%len
theorem ua (r:Rec):0≤iI r∧iI r<18446744073709551616:=by
 unfold iI bits;simp only[IntKind.wrap_u64];omega
theorem ub (r:Rec)(p len:Nat)(s:len=2 ^ p)(u:len≤4194304):bits BinOp.and IntKind.u64 (iI r) ((len:Int)-1)=(bJ r len:Int):=by
 obtain⟨h0,t⟩:=ua r
 have u:p≤22:=by
  rcases Nat.lt_or_ge 22 p with h|h
  ·have:=Nat.pow_lt_pow_right (a:=2) (by decide) h;omega
  ·exact h
 have h:=bits_mask .u64 64 (by decide) (fun n h0 t=>by rw[IntKind.wrap_u64];omega) p (by omega) (iI r) h0 (by omega);have e:(len:Int)=2 ^ p:=by rw[s];simp
 rw[e,h,bJ,s];rw[Int.natCast_emod,Int.toNat_of_nonneg h0];simp
theorem wm (i p len:Nat)(s:len=2 ^ p)(t:len≤4194304)(hi:i<len):bits BinOp.and IntKind.i64 ((i:Int)+1) ((len:Int)-1)=(((i+1)%len:Nat):Int):=by
 have t:p≤22:=by
  rcases Nat.lt_or_ge 22 p with h|h
  ·have:=Nat.pow_lt_pow_right (a:=2) (by decide) h;omega
  ·exact h
 have h:=bits_mask .i64 63 (by decide) (fun n h0 t=>by rw[IntKind.wrap_i64];omega) p (by omega) ((i:Int)+1) (by omega) (by omega);have e:(len:Int)=2 ^ p:=by rw[s];simp
 rw[e,h,s];simp
theorem vP (a b c d e f g : Value) (w : World) : (method 454 199 (.agg #[a, b, c, d, e, f, g]) "Hash").run Tryz.prog w = .ok (292, .agg #[a, b, c, d, e, f, g]) w := by kernel_rfl
theorem uc (ib J len cap p:Nat)(r:Rec)(E:r.ok)(w:World)(h0:w.cell? ⟨ib,0,none⟩=some (.slice (some ⟨J,0,none⟩) len cap))(O:8≤len)(z:len≤4194304)(u:len=2 ^ p) :
  Calls Tryz.prog 211 #[.pointer (some ⟨ib,0,none⟩),.agg #[.int .u8 r.ad,.int .u8 r.top,.int .u8 r.J,.int .u8 r.lo.tag,.int .u32 r.lo.to,.int .u8 r.hi.tag,.int .u32 r.hi.to]] w fun e N=>
   e=.returned (.int .i64 (bJ r len:Int))∧ae w N:=by
 have J:ib<w.heap.size:=aJ h0
 have D:=ub r p len u z
 have z:bJ r len<len:=fE _ (by omega)
 unfold iI at D
 have hm:=vP
 clear u
 go_enter Tryz.func211,Tryz.ntmps211
 go_wp2_with (first|(go_at_call 292;refine(tZ _ E _).mono ?_;rintro e w1 ⟨rfl,s⟩;have t:ae w w1:=kp;obtain⟨u,z⟩:=s.cells;obtain⟨u,z⟩:=t.cells;have I:=s.size;(try simp only[ak,World.e6,World.a6,aA]at I);have s:=t.size;have s:w.heap.size<w1.heap.size:=(by omega))|fail)
 go_ret
 exact⟨rfl,kp⟩
theorem wu (ib u len cap i p:Nat)(w:World)(h0:w.cell? ⟨ib,0,none⟩=some (.slice (some ⟨u,0,none⟩) len cap))(D:8≤len)(t:len≤4194304)(hi:i<len)(s:len=2 ^ p) :
  Calls Tryz.prog 210 #[.pointer (some ⟨ib,0,none⟩),.int .i64 i] w fun e z=>
   e=.returned (.int .i64 (((i+1)%len:Nat):Int))∧w=z:=by
 have u:=wm i p len s t hi
 clear s
 go_enter Tryz.func210,Tryz.ntmps210
 go_wp2
 go_ret
 exact⟨rfl,rfl⟩
theorem tK (ib N len cap p t:Nat)(r:Rec)(bt:r.ok)(ts:List (Option (Rec×Int)))(w:World)(h0:w.cell? ⟨ib,0,none⟩=some (.slice (some ⟨N,0,none⟩) len cap))(aw:8≤len)(av:len≤4194304)(a1:len=2 ^ p)
  (a7:∀i c,ts[i]?=some c→∀j,j<9→w.cell? ⟨N,i*9+j,none⟩=(cu c)[j]?) (a6:ts.length=len)
  (bw:t<len) (ay:∀d,d<t→∃u id,ts[(bJ r len+d)%len]?=some (some (u,id))∧u≠r)
  (a4:ts[(bJ r len+t)%len]?=some none∨∃id,ts[(bJ r len+t)%len]?=some (some (r,id))) :
  Calls Tryz.prog 200 #[.pointer (some ⟨ib,0,none⟩),.agg #[.int .u8 r.ad,.int .u8 r.top,.int .u8 r.J,.int .u8 r.lo.tag,.int .u32 r.lo.to,.int .u8 r.hi.tag,.int .u32 r.hi.to]] w fun e bv=>
   e=.returned (.int .i64 (((bJ r len+t)%len:Nat):Int))∧ae w bv:=by
 have bi:ib<w.heap.size:=aJ h0
 have a2:=aa a1
 have bv:=aa a6
 clear a1 a6
 have T:=aa a7
 have a9:=aa ay
 have ba:=aa a4
 clear a7 ay a4
 go_enter Tryz.func200,Tryz.ntmps200
 go_wp2_with (first|(go_at_call 211;refine(uc ib N len cap p r bt _ (by simp[go_sem,h0,bi]) aw av a2.out).mono ?_;rintro e w1 ⟨rfl,V⟩;have D:ae w w1:=kp;obtain⟨bb,be⟩:=V.cells;obtain⟨bc,bh⟩:=D.cells;have a5:=V.size;(try simp only[ak,World.e6,World.a6,aA]at a5);have ay:=D.size;have a1:w.heap.size<w1.heap.size:=(by omega))|fail)
 have a4:ae (w.alloc (.cells #[.int .u8 r.ad,.int .u8 r.top,.int .u8 r.J,.int .u8 r.lo.tag,.int .u32 r.lo.to,.int .u8 r.hi.tag,.int .u32 r.hi.to] 199)) w1:=V
 have V:=fZ a4
 have Q:=D.cell h0
 clear bb be bc bh a5 ay a1
 have a8:=aa V
 have a':=aa Q
 clear V Q h0
 go_loopg [5] t (fun gk i wr=>∃d k:Nat,d+gk=t∧Hid (k=(bJ r len+d)%len)∧k<len∧i=.int .i64 (k:Int)∧ae w1 wr)
 case atStart=>exact⟨0,bJ r len,by omega,(by show _=_;rw[gH,fC];unfold bJ;exact fE _ (by omega)),(by unfold bJ;exact fE _ (by omega)),rfl,ae.refl _⟩
 case round=>
  obtain⟨d,k,O,E,bn,rfl,J⟩:=hrel;obtain⟨V,ay,a1,a4,a5,a6,a7⟩:=J.e4 a8.out;have Q:=J.cell a'.out;have V:(k:Int)<(len:Int):=by omega
  by_cases W:gk=0
  ·subst W;rcases ba.out with hs|⟨id,hs⟩
   ·have a3:=(J.cell (D.cell ((T.out _ _ hs 8 (by omega)).trans rfl)));have z:d=t:=(by omega);have V:wr.cell? ⟨N,k*9+8,none⟩=some (.bool false):=(by rw[E.out,z];exact a3);have z:=aa z;clear a3 O;go_wp2_with fail;go_quiet (fail);go_wp2;go_ret;have U:k=(bJ r len+t)%len:=(by rw[E.out,z.out]);refine⟨?_,kp⟩;rw[←U];rfl
   ·have s:=fun j I=>J.cell (D.cell ((T.out _ _ hs j I).trans (aQ (by rw[gq];exact I))));have z:d=t:=(by omega);rw[←z,←E.out]at s;have X:=s 0 (by omega);have Y:=s 1 (by omega);have Z:=s 2 (by omega);have ab:=s 3 (by omega);have ad:=s 4 (by omega);have ah:=s 5 (by omega);have al:=s 6 (by omega);have am:=s 8 (by omega);simp[cu,gm]at X Y Z ab ad ah al am;have z:=aa z;clear s O;go_wp2_with fail;go_quiet (fail);go_wp2;go_ret;have U:k=(bJ r len+t)%len:=(by rw[E.out,z.out]);refine⟨?_,kp⟩;rw[←U];rfl
  ·obtain⟨u,id,hs,a0⟩:=a9.out d (by omega);have s:=fun j I=>J.cell (D.cell ((T.out _ _ hs j I).trans (aQ (by rw[gq];exact I))));rw[←E.out]at s;have X:=s 0 (by omega);have Y:=s 1 (by omega);have Z:=s 2 (by omega);have ab:=s 3 (by omega);have ad:=s 4 (by omega);have ah:=s 5 (by omega);have al:=s 6 (by omega);have am:=s 8 (by omega);simp[cu,gm]at X Y Z ab ad ah al am;have t:∀t,(binOp .neq 199 (.agg #[.int .u8 u.ad,.int .u8 u.top,.int .u8 u.J,.int .u8 u.lo.tag,.int .u32 u.lo.to,.int .u8 u.hi.tag,.int .u32 u.hi.to]) (.agg #[.int .u8 r.ad,.int .u8 r.top,.int .u8 r.J,.int .u8 r.lo.tag,.int .u32 r.lo.to,.int .u8 r.hi.tag,.int .u32 r.hi.to])).run Tryz.prog t=.ok (.bool true) t:=fun t=>(by rw[ym];simp[a0]);have bd:=aa O;have ax:=aa W;clear s hs a0 O W;go_wp2_with fail;go_quiet (fail);go_wp2_with (first|(go_at_call 210;refine(wu ib N len cap k p _ (by simpa using Q) aw av bn a2.out).mono ?_;rintro e s ⟨rfl,rfl⟩)|fail)
   go_roundg (gk-1)
   case rel=>exact⟨d+1,(k+1)%len,by have:=bd.out;have:=ax.out;omega,(by show _=_;rw[E.out];simp[Nat.add_assoc,Nat.mod_add_mod]),fE _ (by omega),rfl,kp⟩
   case measure=>have:=ax.out;omega
structure di (F:Nat→Prop)(w:World)(ib:Nat)(ts:aK)(n:Int):Prop where
 h9:∃tb cap,w.heap[ib]?=some (.cells #[.slice (some ⟨tb,0,none⟩) ts.length cap,.int .i64 n] 255 (0,0)) ∧
  w.ownsRow 0 274 9 (.slice (some ⟨tb,0,none⟩) ts.length cap) ts.length (ts.flatMap cu)∧F tb
 own:F ib
 h3:∃p,ts.length=2 ^ p
 hK:8≤ts.length
 hO:ts.length≤4194304
 bw:2*c9 ts≤ts.length
 ok:ep bJ ts
 b7:∀r id,aK.has ts r id→r.ok∧0≤id∧id≤4294967295
theorem ue (ib s len cap k:Nat)(r x:Rec)(id:Int)(b:Bool)(w:World)(h0:w.cell? ⟨ib,0,none⟩=some (.slice (some ⟨s,0,none⟩) len cap))(W:len≤4194304)(z:k<len)
  (g0:w.cell? ⟨s,k*9,none⟩=some (.int .u8 x.ad)) (g1:w.cell? ⟨s,k*9+1,none⟩=some (.int .u8 x.top)) (J:w.cell? ⟨s,k*9+2,none⟩=some (.int .u8 x.J))
  (N:w.cell? ⟨s,k*9+3,none⟩=some (.int .u8 x.lo.tag)) (O:w.cell? ⟨s,k*9+4,none⟩=some (.int .u32 x.lo.to)) (Q:w.cell? ⟨s,k*9+5,none⟩=some (.int .u8 x.hi.tag))
  (T:w.cell? ⟨s,k*9+6,none⟩=some (.int .u32 x.hi.to)) (U:w.cell? ⟨s,k*9+7,none⟩=some (.int .u32 id)) (V:w.cell? ⟨s,k*9+8,none⟩=some (.bool b))
  (E:∀u,ae w u→Calls Tryz.prog 200 #[.pointer (some ⟨ib,0,none⟩),.agg #[.int .u8 r.ad,.int .u8 r.top,.int .u8 r.J,.int .u8 r.lo.tag,.int .u32 r.lo.to,.int .u8 r.hi.tag,.int .u32 r.hi.to]] u fun e t=>
    e=.returned (.int .i64 (k:Int))∧ae u t) :
  Calls Tryz.prog 135 #[.pointer (some ⟨ib,0,none⟩),.agg #[.int .u8 r.ad,.int .u8 r.top,.int .u8 r.J,.int .u8 r.lo.tag,.int .u32 r.lo.to,.int .u8 r.hi.tag,.int .u32 r.hi.to]] w fun e t=>
   e=.returned (.tuple #[.int .u32 (if b then id else 0),.bool b])∧ae w t:=by
 have u:ib<w.heap.size:=aJ h0
 have u:s<w.heap.size:=aJ g0
 have u:(k:Int)<(len:Int):=by omega
 have u:w.heap.size+1≠ib:=by omega
 have u:w.heap.size+1≠s:=by omega
 have H:=aa E
 clear E
 go_enter Tryz.func135,Tryz.ntmps135
 go_wp2
 go_region_held3 (fun t=>t.cell? ⟨ib,0,none⟩=some (.slice (some ⟨s,0,none⟩) len cap)∧(t.cell? ⟨w.heap.size,0,none⟩=some (.int .u8 r.ad)∧t.cell? ⟨w.heap.size,1,none⟩=some (.int .u8 r.top)∧t.cell? ⟨w.heap.size,2,none⟩=some (.int .u8 r.J)∧t.cell? ⟨w.heap.size,3,none⟩=some (.int .u8 r.lo.tag)∧t.cell? ⟨w.heap.size,4,none⟩=some (.int .u32 r.lo.to)∧t.cell? ⟨w.heap.size,5,none⟩=some (.int .u8 r.hi.tag)∧t.cell? ⟨w.heap.size,6,none⟩=some (.int .u32 r.hi.to))∧(t.cell? ⟨s,k*9,none⟩=some (.int .u8 x.ad)∧t.cell? ⟨s,k*9+1,none⟩=some (.int .u8 x.top)∧t.cell? ⟨s,k*9+2,none⟩=some (.int .u8 x.J)∧t.cell? ⟨s,k*9+3,none⟩=some (.int .u8 x.lo.tag)∧t.cell? ⟨s,k*9+4,none⟩=some (.int .u32 x.lo.to)∧t.cell? ⟨s,k*9+5,none⟩=some (.int .u8 x.hi.tag)∧t.cell? ⟨s,k*9+6,none⟩=some (.int .u32 x.hi.to)∧t.cell? ⟨s,k*9+7,none⟩=some (.int .u32 id)∧t.cell? ⟨s,k*9+8,none⟩=some (.bool b))) (go_keep) ((first|(go_at_call 200;refine(H.out _ kp).mono ?_;rintro e w1 ⟨rfl,D⟩;obtain⟨t,u,E,J,N,O,Q⟩:=fZ (w:=w) (w1:=w1) (show ae (w.alloc (.cells #[.int .u8 r.ad,.int .u8 r.top,.int .u8 r.J,.int .u8 r.lo.tag,.int .u32 r.lo.to,.int .u8 r.hi.tag,.int .u32 r.hi.to] 199)) w1 from kp);have z:ae w w1:=kp;obtain⟨t,u⟩:=D.cells;obtain⟨t,u⟩:=z.cells;have I:=D.size;(try simp only[ak,World.e6,World.a6,aA]at I);have t:=z.size;have t:w.heap.size<w1.heap.size:=(by omega);have t:w1.heap.size≠ib:=(by omega);have t:w1.heap.size≠s:=(by omega);have s:w1.heap.size≠w.heap.size:=(by omega))))
 all_goals cases b
 all_goals(go_wp2;go_ret2;exact⟨rfl,kp⟩)
theorem di.open {F:Nat→Prop}{w:World}{ib:Nat}{ts:aK}{n:Int}(h:di F w ib ts n) :
  ∃s cap,w.cell? ⟨ib,0,none⟩=some (.slice (some ⟨s,0,none⟩) ts.length cap)∧w.cell? ⟨ib,1,none⟩=some (.int .i64 n)∧F s∧ib≠s ∧
   (∀i c,ts[i]?=some c→∀j,j<9→w.cell? ⟨s,i*9+j,none⟩=(cu c)[j]?)∧(∀j,w.frozen? ⟨s,j,none⟩=false)∧(∀j,w.frozen? ⟨ib,j,none⟩=false):=by
 obtain⟨⟨s,cap,t,u,D⟩,_⟩:=h
 obtain⟨z,E⟩:=cU u (k:=s) rfl
 refine⟨s,cap,by rw[cell_of_row w ib 0 _ _ _ t];rfl,by rw[cell_of_row w ib 1 _ _ _ t];rfl,D,(eU E t (by decide)).symm,fun i c z j I=>?_,fun j=>u.frozenAt j,fun j=>frozen_of_row w ib j _ _ t⟩
 have hi:=(List.getElem?_eq_some_iff.1 z).1
 rw[u.cellAt (i*9+j) (by omega)]
 exact gK cu 9 gq ts i j c z I
theorem di.keep {F G:Nat→Prop}{w s:World}{ib:Nat}{ts:aK}{n:Int}(h:di F w ib ts n)(E:af G w s)(z:∀k,F k→¬G k):di F s ib ts n:=by
 obtain⟨⟨V,cap,s,U,u⟩,t,I,J,N,O,Q,T⟩:=h;exact⟨⟨V,cap,(E.block ib (bu s) (z _ t)).trans s,E.ca (fun k D=>by simp[Value.ownBlock]at D;subst D;exact z _ u) U,u⟩,t,I,J,N,O,Q,T⟩
theorem di.U {F:Nat→Prop}{w s:World}{ib:Nat}{ts:aK}{n:Int}(h:di F w ib ts n)(t:ae w s):di F s ib ts n:=
 h.keep (t.upd (fun _=>False)) (fun _ _ h=>h)
theorem di.a7 {F:Nat→Prop}{w:World}{ib:Nat}{ts:aK}{n:Int}(h:di F w ib ts n):∃e:Nat,ts[e]?=some none:=
 oV (by have:=h.bw;have:=h.hK;omega)
theorem lW {F:Nat→Prop}{w:World}{ib:Nat}{ts:aK}{n:Int}(h:di F w ib ts n)(r:Rec)(D:r.ok)(s:Nat)(t:Ends bJ ts r s) :
  Calls Tryz.prog 200 #[.pointer (some ⟨ib,0,none⟩),.agg #[.int .u8 r.ad,.int .u8 r.top,.int .u8 r.J,.int .u8 r.lo.tag,.int .u32 r.lo.to,.int .u8 r.hi.tag,.int .u32 r.hi.to]] w fun e u=>e=.returned (.int .i64 (((bJ r ts.length+s)%ts.length:Nat):Int))∧ae w u:=by
 obtain⟨p,z⟩:=h.h3
 obtain⟨I,cap,u,J,_,_,E,_⟩:=h.open
 exact tK ib I ts.length cap p s r D ts w u h.hK h.hO z E rfl t.lt t.go t.stop
theorem oe {F:Nat→Prop}{w:World}{ib:Nat}{ts:aK}{n:Int}(h:di F w ib ts n)(r x:Rec)(k:Nat)(c:Option (Rec×Int))(id:Int)(b:Bool)(u:ts[k]?=some c)(D:cu c=gm x++[.int .u32 id,.bool b])
  (U:∀s,ae w s→Calls Tryz.prog 200 #[.pointer (some ⟨ib,0,none⟩),.agg #[.int .u8 r.ad,.int .u8 r.top,.int .u8 r.J,.int .u8 r.lo.tag,.int .u32 r.lo.to,.int .u8 r.hi.tag,.int .u32 r.hi.to]] s fun e t=>e=.returned (.int .i64 (k:Int))∧ae s t) :
  Calls Tryz.prog 135 #[.pointer (some ⟨ib,0,none⟩),.agg #[.int .u8 r.ad,.int .u8 r.top,.int .u8 r.J,.int .u8 r.lo.tag,.int .u32 r.lo.to,.int .u8 r.hi.tag,.int .u32 r.hi.to]] w fun e t=>e=.returned (.tuple #[.int .u32 (if b then id else 0),.bool b])∧ae w t:=by
 obtain⟨t,cap,z,E,_,J,s,I,_⟩:=h.open
 have V:=(List.getElem?_eq_some_iff.1 u).1
 have s:=s k c u
 rw[D]at s
 have u:w.cell? ⟨t,k*9,none⟩=some (.int .u8 x.ad):=s 0 (by omega)
 have D:w.cell? ⟨t,k*9+1,none⟩=some (.int .u8 x.top):=s 1 (by omega)
 have E:w.cell? ⟨t,k*9+2,none⟩=some (.int .u8 x.J):=s 2 (by omega)
 have I:w.cell? ⟨t,k*9+3,none⟩=some (.int .u8 x.lo.tag):=s 3 (by omega)
 have J:w.cell? ⟨t,k*9+4,none⟩=some (.int .u32 x.lo.to):=s 4 (by omega)
 have N:w.cell? ⟨t,k*9+5,none⟩=some (.int .u8 x.hi.tag):=s 5 (by omega)
 have O:w.cell? ⟨t,k*9+6,none⟩=some (.int .u32 x.hi.to):=s 6 (by omega)
 have Q:w.cell? ⟨t,k*9+7,none⟩=some (.int .u32 id):=s 7 (by omega)
 have T:w.cell? ⟨t,k*9+8,none⟩=some (.bool b):=s 8 (by omega)
 exact ue ib t ts.length cap k r x id b w z h.hO V u D E I J N O Q T U
theorem ug {F:Nat→Prop}{w:World}{ib:Nat}{ts:aK}{n:Int}(h:di F w ib ts n)(r:Rec)(N:r.ok)(o:Option Int)(I:∀id,aK.has ts r id↔o=some id) :
  Calls Tryz.prog 135 #[.pointer (some ⟨ib,0,none⟩),.agg #[.int .u8 r.ad,.int .u8 r.top,.int .u8 r.J,.int .u8 r.lo.tag,.int .u32 r.lo.to,.int .u8 r.hi.tag,.int .u32 r.hi.to]] w fun e s=>e=.returned (.tuple #[.int .u32 (o.getD 0),.bool o.isSome])∧ae w s:=by
 obtain⟨D,u⟩:=lK (H:=bJ) r h.a7
 have E:∀t,ae w t→Calls Tryz.prog 200 #[.pointer (some ⟨ib,0,none⟩),.agg #[.int .u8 r.ad,.int .u8 r.top,.int .u8 r.J,.int .u8 r.lo.tag,.int .u32 r.lo.to,.int .u8 r.hi.tag,.int .u32 r.hi.to]] t fun e s=>e=.returned (.int .i64 (((bJ r ts.length+D)%ts.length:Nat):Int))∧ae t s:=fun t t=>lW (h.U t) r N D u
 rcases u.stop with hs|⟨id,hs⟩
 ·have z:o=none:=by
   cases J:o with
   |none=>rfl
   |some id=>
    have:=u.g' h.ok ((I id).2 J);rw[hs]at this;simp at this
  subst z;exact(oe h r Rec.zero _ none 0 false hs rfl E).mono fun e s he=>⟨he.1,he.2⟩
 ·have z:o=some id:=(I id).1 ⟨_,hs⟩;subst z;exact(oe h r r _ (some (r,id)) id true hs rfl E).mono fun e s he=>⟨he.1,he.2⟩
theorem og:(Tryz.prog.info? 274).map (fun i=>(i.zero,i.size,i.bytes))=some (some (.agg #[.int .u8 0,.int .u8 0,.int .u8 0,.int .u8 0,.int .u32 0,.int .u8 0,.int .u32 0,.int .u32 0,.bool false]),9,28):=by kernel_rfl
theorem oI (n:Nat):(madeCells (Value.agg #[.int .u8 0,.int .u8 0,.int .u8 0,.int .u8 0,.int .u32 0,.int .u8 0,.int .u32 0,.int .u32 0,.bool false]).cells (n*9)).toList=(List.replicate n (none:Option (Rec×Int))).flatMap cu:=by
 apply List.ext_getElem?;intro j;by_cases u:j<n*9
 ·have z:j / 9<n:=by omega
  have t:(List.replicate n (none:Option (Rec×Int)))[j / 9]?=some none:=by simp[z]
  have:=gK cu 9 gq (List.replicate n none) (j / 9) (j%9) none t (by omega);rw[show j / 9*9+j%9=j by omega]at this;rw[this];have s:j%9<9:=by omega
  simp only[madeCells,Array.getElem?_toList,Array.getElem?_map,Value.cells];rw[Array.getElem?_eq_getElem (by simpa using u)];simp only[Array.getElem_range,Option.map_some];generalize j%9=m at s;match m,s with
  |0,_=>rfl
  |1,_=>rfl
  |2,_=>rfl
  |3,_=>rfl
  |4,_=>rfl
  |5,_=>rfl
  |6,_=>rfl
  |7,_=>rfl
  |8,_=>rfl
 ·rw[eT (by simp[madeCells];omega),eT (by rw[lN cu 9 gq];simp;omega)]
structure dt (w:World)(ib:Nat)(ts:aK)(n:Int)(i:Nat)(nt:aK)(wr:World):Prop where
 len:nt.length=2*ts.length
 ok:ep bJ nt
 has:∀r id,aK.has nt r id↔∃j,j<i∧aK.at ts j r id
 gx:c9 nt=c9 (ts.take i)
 heap:wr.heap[ib]?=some (.cells #[.slice (some ⟨w.heap.size,0,none⟩) (2*ts.length) (2*ts.length),.int .i64 n] 255 (0,0))
 row:wr.ownsRow 0 274 9 (.slice (some ⟨w.heap.size,0,none⟩) (2*ts.length) (2*ts.length)) (2*ts.length) (nt.flatMap cu)
 upd:af (fun k=>k=ib) w wr
theorem o6 {w:World}{b b':Nat}{e:TypeId}{size:Nat}{v:Value}{n:Nat}{s:List Value}(h:w.ownsRow b e size v n s)(t:b'≤b):w.ownsRow b' e size v n s:=by
 refine⟨h.1,?_⟩;rcases h.2 with s|⟨g,cap,t,u,s,z⟩;·exact .inl s
 ·exact .inr ⟨g,cap,t,u,by omega,z⟩
theorem dt.start {w w1:World}{ib:Nat}{ts:aK}{n:Int}{v:Value}(u:w.heap[ib]?=some (.cells #[v,.int .i64 n] 255 (0,0)))
  (z:w1.ownsRow w.heap.size 274 9 (.slice (some ⟨w.heap.size,0,none⟩) (2*ts.length) (2*ts.length)) (2*ts.length) (madeCells (Value.agg #[.int .u8 0,.int .u8 0,.int .u8 0,.int .u8 0,.int .u32 0,.int .u8 0,.int .u32 0,.int .u32 0,.bool false]).cells (2*ts.length*9)).toList)
  (t:w.grownBy w1 none) :
  dt w ib ts n 0 (List.replicate (2*ts.length) none) (w1.setCell ⟨ib,0,none⟩ (.slice (some ⟨w.heap.size,0,none⟩) (2*ts.length) (2*ts.length))):=by
 obtain⟨D,E,I⟩:=ep.empty bJ (2*ts.length)
 have N:=bu u
 have J:w1.heap[ib]?=some (.cells #[v,.int .i64 n] 255 (0,0)):=(t.block ib N (by simp)).trans u
 refine⟨by simp,D,fun r id=>⟨fun h=>(I r id h).elim,fun⟨j,u,_⟩=>by omega⟩,by rw[E];simp[c9],?_,?_,?_⟩
 ·exact heap_setCell_same w1 ib 0 _ _ _ J
 ·rw[oI]at z;refine af.ca (F:=fun k=>k=ib) (af.setCell (F:=fun k=>k=ib) (p:=⟨ib,0,none⟩) (af.refl _ _) (Or.inl rfl) _) (fun k s=>?_) (o6 z (Nat.zero_le _));simp[Value.ownBlock]at s;omega
 ·exact af.setCell (F:=fun k=>k=ib) (p:=⟨ib,0,none⟩) (af.c' (af.refl _ _) t (fun k s=>by simp at s)) (Or.inl rfl) _
theorem dt.skip {w wr t:World}{ib:Nat}{ts u:aK}{n:Int}{i:Nat}(h:dt w ib ts n i u wr)(s:ae wr t)(hi:ts[i]?=some none):dt w ib ts n (i+1) u t:=by
 obtain⟨t,u,z,D,E,I,J⟩:=h;refine⟨t,u,fun r id=>(z r id).trans ⟨fun⟨j,t,h⟩=>⟨j,by omega,h⟩,fun⟨j,t,h⟩=>⟨j,?_,h⟩⟩,?_,s.heap E,s.ca I,J.bd (s.upd _)⟩
 ·rcases Nat.lt_or_ge j i with s|t;·exact s
  ·have:j=i:=(by omega);subst this;unfold aK.at at h;rw[hi]at h;simp at h
 ·rw[D,List.take_add_one,hi];simp[c9,List.countP_append]
theorem dt.step {w wr E:World}{ib:Nat}{ts t:aK}{n:Int}{i:Nat}(h:dt w ib ts n i t wr)(z:ae wr E){r:Rec}{id:Int}(hi:ts[i]?=some (some (r,id))){Q:Nat}
  (N:Ends bJ t r Q) (a1:ep bJ ts) (k:Nat) (D:k=(bJ r t.length+Q)%t.length) :
  dt w ib ts n (i+1) (t.set k (some (r,id))) (fw E w.heap.size (k*9) (cu (some (r,id)))):=by
 obtain⟨T,ah,I,al,J,U,V⟩:=h
 have ab:k<t.length:=by rw[D];exact fE _ (by have:=N.lt;omega)
 have a0:t[k]?=some none:=by
  rcases N.stop with hs|⟨u,hs⟩;·rw[D];exact hs
  ·obtain⟨j,Z,s⟩:=(I r u).1 ⟨_,hs⟩;have:=a1.gl j i r u id s hi;omega
 obtain⟨W,X,Y⟩:=ah.put N (D ▸ a0) id
 rw[←D]at W X Y
 have am:=bu J
 have ax:ib≠w.heap.size:=by
  obtain⟨t,av⟩:=cU U (k:=w.heap.size) rfl;exact eU J av (by decide)
 have ad:=mH w.heap.size (cu (some (r,id))) (k*9) E
 refine⟨by rw[de,T],W,fun O u=>(Y O u).trans ⟨?_,?_⟩,?_,?_,?_,?_⟩
 ·rintro(⟨rfl,rfl⟩|aw);·exact⟨i,by omega,hi⟩
  ·obtain⟨j,Z,s⟩:=(I O u).1 aw;exact⟨j,by omega,s⟩
 ·rintro⟨j,Z,s⟩;rcases Nat.lt_or_ge j i with ab|t;·exact .inr ((I O u).2 ⟨j,ab,s⟩)
  ·have:j=i:=(by omega);subst this;unfold aK.at at s;rw[hi]at s;simp at s;exact .inl ⟨s.1.symm,s.2.symm⟩
 ·rw[X,al,List.take_add_one,hi];simp[c9,List.countP_append]
 ·exact(ad.block ib (dz am z.size) ax).trans (z.heap J)
 ·exact mG cu gq T (z.ca U) k (by omega) (some (r,id))
 ·refine(V.bd (z.upd _)).trans ((ad.mono (fun s ay e=>?_)));subst e;have:=V.size;have:=z.size;exact .inr ⟨aI _,ay⟩
theorem oW (ts:aK)(i:Nat):c9 (ts.take i)≤i∧c9 (ts.take i)≤ts.length:=by
 have s:c9 (ts.take i)≤(ts.take i).length:=List.countP_le_length;have s:(ts.take i).length=min i ts.length:=gG;omega
theorem dt.a' {w wr:World}{ib:Nat}{ts s:aK}{n:Int}{i:Nat}(h:dt w ib ts n i s wr){p:Nat}(z:ts.length=2 ^ p)(E:8≤ts.length)(D:ts.length≤2097152)
  (t:∀r id,aK.has ts r id→r.ok∧0≤id∧id≤4294967295):di (fun _=>True) wr ib s n:=by
 have s:=h.len
 have D:=h.gx
 have D:=oW ts i
 refine⟨⟨w.heap.size,2*ts.length,?_,?_,trivial⟩,trivial,⟨p+1,by rw[s,z,dA];omega⟩,by omega,by omega,by omega,h.ok,fun r id u=>?_⟩
 ·rw[s];exact h.heap
 ·rw[s];exact h.row
 ·obtain⟨j,_,s⟩:=(h.has r id).1 u;exact t r id ⟨j,s⟩
theorem dt.a7 {w wr:World}{ib:Nat}{ts s:aK}{n:Int}{i:Nat}(h:dt w ib ts n i s wr)(t:8≤ts.length):∃e:Nat,s[e]?=some none:=by
 have s:=h.len;have s:=h.gx;have s:=oW ts i;exact oV (by omega)
theorem dt.hV {w wr:World}{ib:Nat}{ts s:aK}{n:Int}{i:Nat}(h:dt w ib ts n i s wr)(N:ep bJ ts){r:Rec}{id:Int}(hi:ts[i]?=some (some (r,id))){t:Nat}(u:Ends bJ s r t){k:Nat}(E:k=(bJ r s.length+t)%s.length) :
  k<2*ts.length∧(∀j,j<9→wr.cell? ⟨w.heap.size,k*9+j,none⟩=(cu none)[j]?)∧(∀j,wr.frozen? ⟨w.heap.size,j,none⟩=false)∧w.heap.size<wr.heap.size∧w.heap.size≠ib:=by
 have t:=h.len
 have t:k<s.length:=by rw[E];exact fE _ (by have:=u.lt;omega)
 have J:s[k]?=some none:=by
  rcases u.stop with hs|⟨I,hs⟩;·rw[E];exact hs
  ·obtain⟨j,D,t⟩:=(h.has r I).1 ⟨_,hs⟩;have:=N.gl j i r I id t hi;omega
 obtain⟨t,z⟩:=cU h.row (k:=w.heap.size) rfl
 exact⟨by omega,fun j D=>(h.row.cellAt (k*9+j) (by omega)).trans (gK cu 9 gq s k j none J D),fun j=>h.row.frozenAt j,bu z,eU z h.heap (by decide)⟩
theorem tT {F:Nat→Prop}{w:World}{ib:Nat}{ts:aK}{n:Int}(s cap p:Nat)(T:w.heap[ib]?=some (.cells #[.slice (some ⟨s,0,none⟩) ts.length cap,.int .i64 n] 255 (0,0)))
  (a4:w.ownsRow 0 274 9 (.slice (some ⟨s,0,none⟩) ts.length cap) ts.length (ts.flatMap cu)) (a3:ts.length=2 ^ p) (ax:8≤ts.length) (bv:ts.length≤2097152)
  (a1:ep bJ ts) (a0:∀r id,aK.has ts r id→r.ok∧0≤id∧id≤4294967295) :
  Calls Tryz.prog 203 #[.pointer (some ⟨ib,0,none⟩)] w fun e z=>e=.returned (.tuple #[])∧∃N,dt w ib ts n ts.length N z:=by
 have U:w.cell? ⟨ib,0,none⟩=some (.slice (some ⟨s,0,none⟩) ts.length cap):=by rw[cell_of_row w ib 0 _ _ _ T];rfl
 have aw:w.frozen? ⟨ib,0,none⟩=false:=frozen_of_row w ib 0 _ _ T
 have b2:=bu T
 obtain⟨cc,hi,b9,ca,cb⟩:=info_parts og
 have am:=aa T
 have a7:=aa a3
 clear T a3
 go_enter Tryz.func203,Tryz.ntmps203
 go_wp2_with (at_make;refine wpList_make_full _ rfl (.tmp 12) (.tmp 12) 253 rfl w.heap.size 274 cc _ 9 Tryz.underlying253 hi b9 ca .i64 .i64 (2*(ts.length:Int)) (2*(ts.length:Int)) (2*ts.length) rfl rfl (by omega) (by omega) (by rw[cb];omega) (by unfold maxLen;omega) (aI _) ?_;intro w1 a2 W;have a9:=nU (o:=0) W (by simp) U;have bt:=nV (o:=0) W b2 (by simp) aw)
 have b7:=dt.start (ts:=ts) (n:=n) am.out a2 W
 have al:=aa a0
 have ab:=aa a4
 have av:=aa a1
 clear a2 W a9 bt a0 a4 U aw a1
 go_loopg [18] ts.length (fun gk v wr=>∃(i:Nat) (N:aK),i+gk=ts.length∧v=.int .i64 (i:Int)∧dt w ib ts n i N wr)
 case atStart=>exact⟨0,_,by omega,rfl,b7⟩
 case round=>
  obtain⟨i,N,X,rfl,J⟩:=hrel;by_cases b1:gk=0
  ·subst b1;have e:¬(i:Int)<(ts.length:Int):=(by omega);obtain rfl:i=ts.length:=(by omega);go_wp2;go_end0;exact⟨rfl,N,J⟩
  ·have e:(i:Int)<(ts.length:Int):=(by omega);have b4:i<ts.length:=(by omega);obtain⟨c,Q⟩:∃c,ts[i]?=some c:=⟨_,aQ b4⟩;have T:=bu (cU ab.out (k:=s) rfl).choose_spec
   have a5:s≠ib:=by
    obtain⟨T,bw⟩:=cU ab.out (k:=s) rfl;exact eU bw am.out (by decide)
   have ad:=J.upd.ca (fun k b3=>by simp[Value.ownBlock]at b3;omega) ab.out;have t:=fun j (T:j<9)=>(ad.cellAt (i*9+j) (by omega)).trans (gK cu 9 gq ts i j c Q T);cases c with
   |none=>
    have a':wr.cell? ⟨s,i*9,none⟩=some (.int .u8 0):=t 0 (by omega);have ba:wr.cell? ⟨s,i*9+1,none⟩=some (.int .u8 0):=t 1 (by omega);have bb:wr.cell? ⟨s,i*9+2,none⟩=some (.int .u8 0):=t 2 (by omega);have bc:wr.cell? ⟨s,i*9+3,none⟩=some (.int .u8 0):=t 3 (by omega);have bd:wr.cell? ⟨s,i*9+4,none⟩=some (.int .u32 0):=t 4 (by omega);have be:wr.cell? ⟨s,i*9+5,none⟩=some (.int .u8 0):=t 5 (by omega);have bh:wr.cell? ⟨s,i*9+6,none⟩=some (.int .u32 0):=t 6 (by omega);have bi:wr.cell? ⟨s,i*9+7,none⟩=some (.int .u32 0):=t 7 (by omega);have bn:wr.cell? ⟨s,i*9+8,none⟩=some (.bool false):=t 8 (by omega);have O:=aa Q;have Z:=aa X;clear t ad Q X a5;go_wp2;go_roundg (gk-1)
    case rel=>exact⟨i+1,N,by have:=Z.out;omega,by go_num,J.skip kp O.out⟩
    case measure=>omega
   |some c=>
    obtain⟨r,id⟩:=c;have a':wr.cell? ⟨s,i*9,none⟩=some (.int .u8 r.ad):=t 0 (by omega);have ba:wr.cell? ⟨s,i*9+1,none⟩=some (.int .u8 r.top):=t 1 (by omega);have bb:wr.cell? ⟨s,i*9+2,none⟩=some (.int .u8 r.J):=t 2 (by omega);have bc:wr.cell? ⟨s,i*9+3,none⟩=some (.int .u8 r.lo.tag):=t 3 (by omega);have bd:wr.cell? ⟨s,i*9+4,none⟩=some (.int .u32 r.lo.to):=t 4 (by omega);have be:wr.cell? ⟨s,i*9+5,none⟩=some (.int .u8 r.hi.tag):=t 5 (by omega);have bh:wr.cell? ⟨s,i*9+6,none⟩=some (.int .u32 r.hi.to):=t 6 (by omega);have bi:wr.cell? ⟨s,i*9+7,none⟩=some (.int .u32 id):=t 7 (by omega);have bn:wr.cell? ⟨s,i*9+8,none⟩=some (.bool true):=t 8 (by omega);have O:=aa Q;have Z:=aa X;clear t ad Q X a5;have b6:=J.a' a7.out ax bv al.out;have b5:r.ok:=(al.out r id ⟨i,O.out⟩).1;obtain⟨ah,V⟩:=lK (H:=bJ) r (J.a7 ax);obtain⟨k,Y⟩:∃k:Nat,k=(bJ r N.length+ah)%N.length:=⟨_,rfl⟩;obtain⟨s,t,b0,b8,Q⟩:=J.hV av.out O.out V Y
    have ay:∀s,ae wr s→Calls Tryz.prog 200 #[.pointer (some ⟨ib,0,none⟩),.agg #[.int .u8 r.ad,.int .u8 r.top,.int .u8 r.J,.int .u8 r.lo.tag,.int .u32 r.lo.to,.int .u8 r.hi.tag,.int .u32 r.hi.to]] s fun e z=>e=.returned (.int .i64 (k:Int))∧ae s z:=fun s s=>by
     rw[Y];exact lW (b6.U s) r b5 ah V
    have a6:=aa V;have a8:=aa Y;have I:=aa t;have H:=aa ay;have s:(k:Int)<2*(ts.length:Int):=(by omega);have s:w.heap.size≠wr.heap.size:=(by omega);have U:wr.cell? ⟨ib,0,none⟩=some (.slice (some ⟨w.heap.size,0,none⟩) (2*ts.length) (2*ts.length)):=(by rw[cell_of_row wr ib 0 _ _ _ J.heap];rfl);have s:ib<wr.heap.size:=bu J.heap;clear V Y t ay;go_wp2_with fail;go_region_held3 (fun z=>z.cell? ⟨ib,0,none⟩=some (.slice (some ⟨w.heap.size,0,none⟩) (2*ts.length) (2*ts.length))∧(z.cell? ⟨wr.heap.size,0,none⟩=some (.int .u8 r.ad)∧z.cell? ⟨wr.heap.size,1,none⟩=some (.int .u8 r.top)∧z.cell? ⟨wr.heap.size,2,none⟩=some (.int .u8 r.J)∧z.cell? ⟨wr.heap.size,3,none⟩=some (.int .u8 r.lo.tag)∧z.cell? ⟨wr.heap.size,4,none⟩=some (.int .u32 r.lo.to)∧z.cell? ⟨wr.heap.size,5,none⟩=some (.int .u8 r.hi.tag)∧z.cell? ⟨wr.heap.size,6,none⟩=some (.int .u32 r.hi.to)∧z.cell? ⟨wr.heap.size,7,none⟩=some (.int .u32 id)∧z.cell? ⟨wr.heap.size,8,none⟩=some (.bool true))) (go_keep) ((first|(go_at_call 200;refine(H.out _ kp).mono ?_;rintro e u ⟨rfl,s⟩;have E:ae (wr.alloc (.cells #[.int .u8 r.ad,.int .u8 r.top,.int .u8 r.J,.int .u8 r.lo.tag,.int .u32 r.lo.to,.int .u8 r.hi.tag,.int .u32 r.hi.to,.int .u32 id,.bool true] 274)) u:=kp;have D:ae wr u:=(((ae.refl _).alloc _).trans E);have s:=D.cell U;have s:u.cell? ⟨wr.heap.size,0,none⟩=some (.int .u8 r.ad):=E.cell (by simp);have s:u.cell? ⟨wr.heap.size,1,none⟩=some (.int .u8 r.top):=E.cell (by simp);have s:u.cell? ⟨wr.heap.size,2,none⟩=some (.int .u8 r.J):=E.cell (by simp);have s:u.cell? ⟨wr.heap.size,3,none⟩=some (.int .u8 r.lo.tag):=E.cell (by simp);have s:u.cell? ⟨wr.heap.size,4,none⟩=some (.int .u32 r.lo.to):=E.cell (by simp);have s:u.cell? ⟨wr.heap.size,5,none⟩=some (.int .u8 r.hi.tag):=E.cell (by simp);have s:u.cell? ⟨wr.heap.size,6,none⟩=some (.int .u32 r.hi.to):=E.cell (by simp);have s:u.cell? ⟨wr.heap.size,7,none⟩=some (.int .u32 id):=E.cell (by simp);have s:u.cell? ⟨wr.heap.size,8,none⟩=some (.bool true):=E.cell (by simp);have s:u.cell? ⟨w.heap.size,k*9,none⟩=some (.int .u8 0):=D.cell (I.out 0 (by omega));have s:u.cell? ⟨w.heap.size,k*9+1,none⟩=some (.int .u8 0):=D.cell (I.out 1 (by omega));have s:u.cell? ⟨w.heap.size,k*9+2,none⟩=some (.int .u8 0):=D.cell (I.out 2 (by omega));have s:u.cell? ⟨w.heap.size,k*9+3,none⟩=some (.int .u8 0):=D.cell (I.out 3 (by omega));have s:u.cell? ⟨w.heap.size,k*9+4,none⟩=some (.int .u32 0):=D.cell (I.out 4 (by omega));have s:u.cell? ⟨w.heap.size,k*9+5,none⟩=some (.int .u8 0):=D.cell (I.out 5 (by omega));have s:u.cell? ⟨w.heap.size,k*9+6,none⟩=some (.int .u32 0):=D.cell (I.out 6 (by omega));have s:u.cell? ⟨w.heap.size,k*9+7,none⟩=some (.int .u32 0):=D.cell (I.out 7 (by omega));have s:u.cell? ⟨w.heap.size,k*9+8,none⟩=some (.bool false):=D.cell (I.out 8 (by omega));have s:∀j,u.frozen? ⟨w.heap.size,j,none⟩=false:=(fun j=>(Below.frozen (p:=⟨w.heap.size,j,none⟩) D b8).trans (b0 j)))))
    go_wp2;go_roundg (gk-1)
    case rel=>exact⟨i+1,N.set k (some (r,id)),by have:=Z.out;omega,by go_num,J.step D O.out a6.out av.out k a8.out⟩
    case measure=>omega
end Go.Proofs.YtafkamlhimkbmaaGreat
