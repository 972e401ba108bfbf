/-
  The walk of store.Find.
-/
import Derived.Test.YtafkamlhimkbmaaGreatPLeadsA
namespace Go.Proofs.YtafkamlhimkbmaaGreat
set_option maxRecDepth 1000000
set_option maxHeartbeats 8000000
set_option linter.unusedSimpArgs false
set_option linter.unusedVariables false
open Go.RowKit
theorem af.cell {F:Nat→Prop}{w t:World}(h:af F w t){a:Addr}{v:Value}(u:¬F a.block)(s:w.cell? a=some v):t.cell? a=some v:=
 (World.cell?_of_block (h.block a.block (aJ s) u)).trans s
theorem af.frozen {F:Nat→Prop}{w s:World}(h:af F w s){a:Addr}(z:a.block<w.heap.size)(u:¬F a.block)(t:w.frozen? a=false):s.frozen? a=false:=
 (World.frozen?_of_block (h.block a.block z u)).trans t
theorem af.e4 {F:Nat→Prop}{w w1:World}(h:af F w w1){k:Nat}(s:¬F k){a b c d e f g:Value}
  (J:w.cell? ⟨k,0,none⟩=some a∧w.cell? ⟨k,1,none⟩=some b∧w.cell? ⟨k,2,none⟩=some c∧w.cell? ⟨k,3,none⟩=some d∧w.cell? ⟨k,4,none⟩=some e∧w.cell? ⟨k,5,none⟩=some f∧w.cell? ⟨k,6,none⟩=some g) :
  w1.cell? ⟨k,0,none⟩=some a∧w1.cell? ⟨k,1,none⟩=some b∧w1.cell? ⟨k,2,none⟩=some c∧w1.cell? ⟨k,3,none⟩=some d∧w1.cell? ⟨k,4,none⟩=some e∧w1.cell? ⟨k,5,none⟩=some f∧w1.cell? ⟨k,6,none⟩=some g:=by
 obtain⟨h0,t,u,z,D,E,I⟩:=J
 exact⟨h.cell s h0,h.cell s t,h.cell s u,h.cell s z,h.cell s D,h.cell s E,h.cell s I⟩
theorem yE (sb ib:Nat)(r:Rec)(id:Int)(n:Int)(J:Value)(w:World)
  (D:w.cell? ⟨sb,0,none⟩=some (.int .i64 n)) (N:w.cell? ⟨sb,1,none⟩=some J) (O:w.cell? ⟨sb,2,none⟩=some (.pointer (some ⟨ib,0,none⟩)))
  (E:∀t,ae w t→Calls Tryz.prog 135 #[.pointer (some ⟨ib,0,none⟩),.agg #[.int .u8 r.ad,.int .u8 r.top,.int .u8 r.J,.int .u8 r.lo.tag,.int .u32 r.lo.to,.int .u8 r.hi.tag,.int .u32 r.hi.to]] t fun e s=>e=.returned (.tuple #[.int .u32 id,.bool true])∧ae t s) :
  Calls Tryz.prog 80 #[.pointer (some ⟨sb,0,none⟩),.agg #[.int .u8 r.ad,.int .u8 r.top,.int .u8 r.J,.int .u8 r.lo.tag,.int .u32 r.lo.to,.int .u8 r.hi.tag,.int .u32 r.hi.to]] w fun e s=>e=.returned (.tuple #[.int .u32 id,.int .u8 0])∧ae w s:=by
 have t:sb<w.heap.size:=aJ D
 have I:=aa E
 clear E
 go_enter Tryz.func80,Tryz.ntmps80
 go_wp2_with fail
 go_region_held3 (fun s=>s.cell? ⟨sb,2,none⟩=some (.pointer (some ⟨ib,0,none⟩))∧(s.cell? ⟨w.heap.size,0,none⟩=some (.int .u8 r.ad)∧s.cell? ⟨w.heap.size,1,none⟩=some (.int .u8 r.top)∧s.cell? ⟨w.heap.size,2,none⟩=some (.int .u8 r.J)∧s.cell? ⟨w.heap.size,3,none⟩=some (.int .u8 r.lo.tag)∧s.cell? ⟨w.heap.size,4,none⟩=some (.int .u32 r.lo.to)∧s.cell? ⟨w.heap.size,5,none⟩=some (.int .u8 r.hi.tag)∧s.cell? ⟨w.heap.size,6,none⟩=some (.int .u32 r.hi.to))) (go_keep) ((first|(go_at_call 135;refine(I.out _ kp).mono ?_;rintro e w1 ⟨rfl,s⟩;have z:ae (w.alloc (.cells #[.int .u8 r.ad,.int .u8 r.top,.int .u8 r.J,.int .u8 r.lo.tag,.int .u32 r.lo.to,.int .u8 r.hi.tag,.int .u32 r.hi.to] 134)) w1:=kp;obtain⟨s,t,E,I,J,T,U⟩:=fZ z;have u:ae w w1:=(((ae.refl _).alloc _).trans z);have Q:=z.size;simp only[ak]at Q;have s:=u.cell D;have s:=u.cell N;have s:=u.cell O)))
 all_goals(go_wp2;go_ret2;exact⟨rfl,kp⟩)
theorem yA (sb ib:Nat)(r:Rec)(al:0≤r.J)(am:r.J≤255)(n:Int)(O:Value)(w:World)
  (D:w.cell? ⟨sb,0,none⟩=some (.int .i64 n)) (Q:w.cell? ⟨sb,1,none⟩=some O) (T:w.cell? ⟨sb,2,none⟩=some (.pointer (some ⟨ib,0,none⟩)))
  (E:∀t,ae w t→Calls Tryz.prog 135 #[.pointer (some ⟨ib,0,none⟩),.agg #[.int .u8 r.ad,.int .u8 r.top,.int .u8 r.J,.int .u8 r.lo.tag,.int .u32 r.lo.to,.int .u8 r.hi.tag,.int .u32 r.hi.to]] t fun e s=>e=.returned (.tuple #[.int .u32 0,.bool false])∧ae t s)
  (I:∀t,Calls Tryz.prog 136 #[.agg #[.int .u8 r.ad,.int .u8 r.top,.int .u8 r.J,.int .u8 r.lo.tag,.int .u32 r.lo.to,.int .u8 r.hi.tag,.int .u32 r.hi.to],.int .i64 n] t fun e s=>e=.returned (.bool false)∧ae t s)
  : Calls Tryz.prog 80 #[.pointer (some ⟨sb,0,none⟩),.agg #[.int .u8 r.ad,.int .u8 r.top,.int .u8 r.J,.int .u8 r.lo.tag,.int .u32 r.lo.to,.int .u8 r.hi.tag,.int .u32 r.hi.to]] w fun e s=>e=.returned (.tuple #[.int .u32 0,.int .u8 1])∧ae w s:=by
 have t:sb<w.heap.size:=aJ D
 have J:=aa E
 have N:=aa I
 clear E I
 go_enter Tryz.func80,Tryz.ntmps80
 go_wp2_with fail
 go_region_held3 (fun s=>s.cell? ⟨sb,2,none⟩=some (.pointer (some ⟨ib,0,none⟩))∧(s.cell? ⟨w.heap.size,0,none⟩=some (.int .u8 r.ad)∧s.cell? ⟨w.heap.size,1,none⟩=some (.int .u8 r.top)∧s.cell? ⟨w.heap.size,2,none⟩=some (.int .u8 r.J)∧s.cell? ⟨w.heap.size,3,none⟩=some (.int .u8 r.lo.tag)∧s.cell? ⟨w.heap.size,4,none⟩=some (.int .u32 r.lo.to)∧s.cell? ⟨w.heap.size,5,none⟩=some (.int .u8 r.hi.tag)∧s.cell? ⟨w.heap.size,6,none⟩=some (.int .u32 r.hi.to))) (go_keep) ((first|(go_at_call 135;refine(J.out _ kp).mono ?_;rintro e w1 ⟨rfl,s⟩;have z:ae (w.alloc (.cells #[.int .u8 r.ad,.int .u8 r.top,.int .u8 r.J,.int .u8 r.lo.tag,.int .u32 r.lo.to,.int .u8 r.hi.tag,.int .u32 r.hi.to] 134)) w1:=kp;obtain⟨W,X,Y,Z,ab,ad,ah⟩:=fZ z;have u:ae w w1:=(((ae.refl _).alloc _).trans z);have V:=z.size;simp only[ak]at V;have U:=u.cell D;have s:=u.cell Q;have s:=u.cell T)))
 go_wp2_with fail
 have s:=au.cell U
 have s:=au.cell W
 have s:=au.cell X
 have s:=au.cell Y
 have s:=au.cell Z
 have s:=au.cell ab
 have s:=au.cell ad
 have s:=au.cell ah
 refine eJ (w1) (by kernel_rfl) (by kernel_rfl) kp ?_;(repeat (go_big_quiet_step ((first|(go_at_call 136;refine Calls.b' (N.out _))))));refine wpQuiet_nil ?_;rintro s ⟨⟨_,av⟩,rfl⟩;try dsimp only
 go_wp2
 go_ret2
 exact⟨rfl,kp⟩
theorem yB (sb ib:Nat)(r:Rec)(av:0≤r.J)(aw:r.J≤255)(n:Int)(T:Value)(w:World)
  (D:w.cell? ⟨sb,0,none⟩=some (.int .i64 n)) (U:w.cell? ⟨sb,1,none⟩=some T) (V:w.cell? ⟨sb,2,none⟩=some (.pointer (some ⟨ib,0,none⟩)))
  (E:∀t,ae w t→Calls Tryz.prog 135 #[.pointer (some ⟨ib,0,none⟩),.agg #[.int .u8 r.ad,.int .u8 r.top,.int .u8 r.J,.int .u8 r.lo.tag,.int .u32 r.lo.to,.int .u8 r.hi.tag,.int .u32 r.hi.to]] t fun e s=>e=.returned (.tuple #[.int .u32 0,.bool false])∧ae t s)
  (J:∀t,Calls Tryz.prog 136 #[.agg #[.int .u8 r.ad,.int .u8 r.top,.int .u8 r.J,.int .u8 r.lo.tag,.int .u32 r.lo.to,.int .u8 r.hi.tag,.int .u32 r.hi.to],.int .i64 n] t fun e s=>e=.returned (.bool true)∧ae t s)
  (I:∀t,ae w t→Calls Tryz.prog 134 #[.pointer (some ⟨sb,0,none⟩),.int .u8 r.ad,.agg #[.int .u8 r.lo.tag,.int .u32 r.lo.to],.int .i64 (r.J+1)] t fun e s=>e=.returned (.bool false)∧ae t s)
  : Calls Tryz.prog 80 #[.pointer (some ⟨sb,0,none⟩),.agg #[.int .u8 r.ad,.int .u8 r.top,.int .u8 r.J,.int .u8 r.lo.tag,.int .u32 r.lo.to,.int .u8 r.hi.tag,.int .u32 r.hi.to]] w fun e s=>e=.returned (.tuple #[.int .u32 0,.int .u8 1])∧ae w s:=by
 have t:sb<w.heap.size:=aJ D
 have N:=aa E
 have Q:=aa J
 have O:=aa I
 clear E J I
 go_enter Tryz.func80,Tryz.ntmps80
 go_wp2_with fail
 go_region_held3 (fun s=>s.cell? ⟨sb,2,none⟩=some (.pointer (some ⟨ib,0,none⟩))∧(s.cell? ⟨w.heap.size,0,none⟩=some (.int .u8 r.ad)∧s.cell? ⟨w.heap.size,1,none⟩=some (.int .u8 r.top)∧s.cell? ⟨w.heap.size,2,none⟩=some (.int .u8 r.J)∧s.cell? ⟨w.heap.size,3,none⟩=some (.int .u8 r.lo.tag)∧s.cell? ⟨w.heap.size,4,none⟩=some (.int .u32 r.lo.to)∧s.cell? ⟨w.heap.size,5,none⟩=some (.int .u8 r.hi.tag)∧s.cell? ⟨w.heap.size,6,none⟩=some (.int .u32 r.hi.to))) (go_keep) ((first|(go_at_call 135;refine(N.out _ kp).mono ?_;rintro e w1 ⟨rfl,s⟩;have z:ae (w.alloc (.cells #[.int .u8 r.ad,.int .u8 r.top,.int .u8 r.J,.int .u8 r.lo.tag,.int .u32 r.lo.to,.int .u8 r.hi.tag,.int .u32 r.hi.to] 134)) w1:=kp;obtain⟨Y,Z,ab,ad,ah,al,am⟩:=fZ z;have u:ae w w1:=(((ae.refl _).alloc _).trans z);have X:=z.size;simp only[ak]at X;have W:=u.cell D;have s:=u.cell U;have s:=u.cell V)))
 go_wp2_with fail
 have s:=au.cell W
 have s:=au.cell Y
 have s:=au.cell Z
 have s:=au.cell ab
 have s:=au.cell ad
 have s:=au.cell ah
 have s:=au.cell al
 have s:=au.cell am
 refine eJ (w1) (by kernel_rfl) (by kernel_rfl) kp ?_;(repeat (go_big_quiet_step ((first|(go_at_call 136;refine Calls.b' (Q.out _))|(go_at_call 134;with_reducible refine Calls.b' (O.out _ (u.trans (au.keep _))))))));refine wpQuiet_nil ?_;rintro s ⟨⟨_,ax⟩,rfl⟩;try dsimp only
 go_wp2
 go_ret2
 exact⟨rfl,kp⟩
theorem yC (sb ib:Nat)(r:Rec)(ax:0≤r.J)(ay:r.J≤255)(n:Int)(V:Value)(w:World)
  (D:w.cell? ⟨sb,0,none⟩=some (.int .i64 n)) (W:w.cell? ⟨sb,1,none⟩=some V) (X:w.cell? ⟨sb,2,none⟩=some (.pointer (some ⟨ib,0,none⟩)))
  (E:∀t,ae w t→Calls Tryz.prog 135 #[.pointer (some ⟨ib,0,none⟩),.agg #[.int .u8 r.ad,.int .u8 r.top,.int .u8 r.J,.int .u8 r.lo.tag,.int .u32 r.lo.to,.int .u8 r.hi.tag,.int .u32 r.hi.to]] t fun e s=>e=.returned (.tuple #[.int .u32 0,.bool false])∧ae t s)
  (N:∀t,Calls Tryz.prog 136 #[.agg #[.int .u8 r.ad,.int .u8 r.top,.int .u8 r.J,.int .u8 r.lo.tag,.int .u32 r.lo.to,.int .u8 r.hi.tag,.int .u32 r.hi.to],.int .i64 n] t fun e s=>e=.returned (.bool true)∧ae t s)
  (J:∀t,ae w t→Calls Tryz.prog 134 #[.pointer (some ⟨sb,0,none⟩),.int .u8 r.ad,.agg #[.int .u8 r.lo.tag,.int .u32 r.lo.to],.int .i64 (r.J+1)] t fun e s=>e=.returned (.bool true)∧ae t s)
  (I:∀t,ae w t→Calls Tryz.prog 134 #[.pointer (some ⟨sb,0,none⟩),.int .u8 r.ad,.agg #[.int .u8 r.hi.tag,.int .u32 r.hi.to],.int .i64 (r.J+1)] t fun e s=>e=.returned (.bool false)∧ae t s)
  : Calls Tryz.prog 80 #[.pointer (some ⟨sb,0,none⟩),.agg #[.int .u8 r.ad,.int .u8 r.top,.int .u8 r.J,.int .u8 r.lo.tag,.int .u32 r.lo.to,.int .u8 r.hi.tag,.int .u32 r.hi.to]] w fun e s=>e=.returned (.tuple #[.int .u32 0,.int .u8 1])∧ae w s:=by
 have t:sb<w.heap.size:=aJ D
 have O:=aa E
 have U:=aa N
 have T:=aa J
 have Q:=aa I
 clear E N J I
 go_enter Tryz.func80,Tryz.ntmps80
 go_wp2_with fail
 go_region_held3 (fun s=>s.cell? ⟨sb,2,none⟩=some (.pointer (some ⟨ib,0,none⟩))∧(s.cell? ⟨w.heap.size,0,none⟩=some (.int .u8 r.ad)∧s.cell? ⟨w.heap.size,1,none⟩=some (.int .u8 r.top)∧s.cell? ⟨w.heap.size,2,none⟩=some (.int .u8 r.J)∧s.cell? ⟨w.heap.size,3,none⟩=some (.int .u8 r.lo.tag)∧s.cell? ⟨w.heap.size,4,none⟩=some (.int .u32 r.lo.to)∧s.cell? ⟨w.heap.size,5,none⟩=some (.int .u8 r.hi.tag)∧s.cell? ⟨w.heap.size,6,none⟩=some (.int .u32 r.hi.to))) (go_keep) ((first|(go_at_call 135;refine(O.out _ kp).mono ?_;rintro e w1 ⟨rfl,s⟩;have z:ae (w.alloc (.cells #[.int .u8 r.ad,.int .u8 r.top,.int .u8 r.J,.int .u8 r.lo.tag,.int .u32 r.lo.to,.int .u8 r.hi.tag,.int .u32 r.hi.to] 134)) w1:=kp;obtain⟨ab,ad,ah,al,am,av,aw⟩:=fZ z;have u:ae w w1:=(((ae.refl _).alloc _).trans z);have Z:=z.size;simp only[ak]at Z;have Y:=u.cell D;have s:=u.cell W;have s:=u.cell X)))
 go_wp2_with fail
 have s:=au.cell Y
 have s:=au.cell ab
 have s:=au.cell ad
 have s:=au.cell ah
 have s:=au.cell al
 have s:=au.cell am
 have s:=au.cell av
 have s:=au.cell aw
 refine eJ (w1) (by kernel_rfl) (by kernel_rfl) kp ?_;(repeat (go_big_quiet_step ((first|(go_at_call 136;refine Calls.b' (U.out _))|(go_at_call 134;with_reducible refine Calls.b' (T.out _ (u.trans (au.keep _))))|(go_at_call 134;with_reducible refine Calls.b' (Q.out _ (u.trans (au.keep _))))))));refine wpQuiet_nil ?_;rintro s ⟨⟨_,a0⟩,rfl⟩;try dsimp only
 go_wp2
 go_ret2
 exact⟨rfl,kp⟩
theorem yD (sb ib:Nat)(r:Rec)(a4:0≤r.J)(a5:r.J≤255)(n:Int)(E:Nat)(w:World)
  (J:w.cell? ⟨sb,0,none⟩=some (.int .i64 n)) (ay:w.cell? ⟨sb,1,none⟩=some (.pointer (some ⟨E,0,none⟩))) (a0:w.cell? ⟨sb,2,none⟩=some (.pointer (some ⟨ib,0,none⟩)))
  (N:∀t,ae w t→Calls Tryz.prog 135 #[.pointer (some ⟨ib,0,none⟩),.agg #[.int .u8 r.ad,.int .u8 r.top,.int .u8 r.J,.int .u8 r.lo.tag,.int .u32 r.lo.to,.int .u8 r.hi.tag,.int .u32 r.hi.to]] t fun e s=>e=.returned (.tuple #[.int .u32 0,.bool false])∧ae t s)
  (V:∀t,Calls Tryz.prog 136 #[.agg #[.int .u8 r.ad,.int .u8 r.top,.int .u8 r.J,.int .u8 r.lo.tag,.int .u32 r.lo.to,.int .u8 r.hi.tag,.int .u32 r.hi.to],.int .i64 n] t fun e s=>e=.returned (.bool true)∧ae t s)
  (T:∀t,ae w t→Calls Tryz.prog 134 #[.pointer (some ⟨sb,0,none⟩),.int .u8 r.ad,.agg #[.int .u8 r.lo.tag,.int .u32 r.lo.to],.int .i64 (r.J+1)] t fun e s=>e=.returned (.bool true)∧ae t s)
  (O:∀t,ae w t→Calls Tryz.prog 134 #[.pointer (some ⟨sb,0,none⟩),.int .u8 r.ad,.agg #[.int .u8 r.hi.tag,.int .u32 r.hi.to],.int .i64 (r.J+1)] t fun e s=>e=.returned (.bool true)∧ae t s)
  (U:∀t,ae w t→Calls Tryz.prog 137 #[.pointer (some ⟨E,0,none⟩),.agg #[.int .u8 r.ad,.int .u8 r.top,.int .u8 r.J,.int .u8 r.lo.tag,.int .u32 r.lo.to,.int .u8 r.hi.tag,.int .u32 r.hi.to]] t fun e s=>e=.returned (.tuple #[.int .u32 0,.bool false])∧ae t s) :
  Calls Tryz.prog 80 #[.pointer (some ⟨sb,0,none⟩),.agg #[.int .u8 r.ad,.int .u8 r.top,.int .u8 r.J,.int .u8 r.lo.tag,.int .u32 r.lo.to,.int .u8 r.hi.tag,.int .u32 r.hi.to]] w fun e s=>e=.returned (.tuple #[.int .u32 0,.int .u8 6])∧ae w s:=by
 have aw:=aa U
 clear U
 have t:sb<w.heap.size:=aJ J
 have al:=aa N
 have ax:=aa V
 have av:=aa T
 have am:=aa O
 clear N V T O
 go_enter Tryz.func80,Tryz.ntmps80
 go_wp2_with fail
 go_region_held3 (fun s=>s.cell? ⟨sb,2,none⟩=some (.pointer (some ⟨ib,0,none⟩))∧(s.cell? ⟨w.heap.size,0,none⟩=some (.int .u8 r.ad)∧s.cell? ⟨w.heap.size,1,none⟩=some (.int .u8 r.top)∧s.cell? ⟨w.heap.size,2,none⟩=some (.int .u8 r.J)∧s.cell? ⟨w.heap.size,3,none⟩=some (.int .u8 r.lo.tag)∧s.cell? ⟨w.heap.size,4,none⟩=some (.int .u32 r.lo.to)∧s.cell? ⟨w.heap.size,5,none⟩=some (.int .u8 r.hi.tag)∧s.cell? ⟨w.heap.size,6,none⟩=some (.int .u32 r.hi.to))) (go_keep) ((first|(go_at_call 135;refine(al.out _ kp).mono ?_;rintro e w1 ⟨rfl,s⟩;have I:ae (w.alloc (.cells #[.int .u8 r.ad,.int .u8 r.top,.int .u8 r.J,.int .u8 r.lo.tag,.int .u32 r.lo.to,.int .u8 r.hi.tag,.int .u32 r.hi.to] 134)) w1:=kp;obtain⟨W,X,Y,Z,ab,ad,ah⟩:=fZ I;have D:ae w w1:=(((ae.refl _).alloc _).trans I);have a3:=I.size;simp only[ak]at a3;have a1:=D.cell J;have a2:=D.cell ay;have s:=D.cell a0)))
 go_wp2_with fail
 have s:=au.cell a1
 have s:=au.cell W
 have s:=au.cell X
 have s:=au.cell Y
 have s:=au.cell Z
 have s:=au.cell ab
 have s:=au.cell ad
 have s:=au.cell ah
 refine eJ (w1) (by kernel_rfl) (by kernel_rfl) kp ?_;(repeat (go_big_quiet_step ((first|(go_at_call 136;refine Calls.b' (ax.out _))|(go_at_call 134;with_reducible refine Calls.b' (av.out _ (D.trans (au.keep _))))|(go_at_call 134;with_reducible refine Calls.b' (am.out _ (D.trans (au.keep _))))))));refine wpQuiet_nil ?_;rintro u ⟨⟨_,z⟩,rfl⟩;try dsimp only
 go_wp2_with fail
 have Q:ae w u:=D.trans z
 have s:∀x:au u,x.w.cell? ⟨sb,1,none⟩=some (.pointer (some ⟨E,0,none⟩)):=au.cell (z.cell a2)
 have s:∀x:au u,x.w.cell? _=_:=au.cell (z.cell W)
 have s:∀x:au u,x.w.cell? _=_:=au.cell (z.cell X)
 have s:∀x:au u,x.w.cell? _=_:=au.cell (z.cell Y)
 have s:∀x:au u,x.w.cell? _=_:=au.cell (z.cell Z)
 have s:∀x:au u,x.w.cell? _=_:=au.cell (z.cell ab)
 have s:∀x:au u,x.w.cell? _=_:=au.cell (z.cell ad)
 have s:∀x:au u,x.w.cell? _=_:=au.cell (z.cell ah)
 refine eJ (u) (by kernel_rfl) (by kernel_rfl) kp ?_;(repeat (go_big_quiet_step ((first|(go_at_call 137;refine Calls.b' (aw.out _ (Q.trans (au.keep _))))))));refine wpQuiet_nil ?_;rintro u ⟨⟨_,z⟩,rfl⟩;try dsimp only
 go_wp2
 go_ret2
 exact⟨rfl,Q.trans (by assumption)⟩
theorem yF (sb ib:Nat)(r:Rec)(c0:0≤r.J)(c1:r.J≤255)(n:Int)(Q:Nat)(w:World)
  (Y:w.cell? ⟨sb,0,none⟩=some (.int .i64 n)) (bi:w.cell? ⟨sb,1,none⟩=some (.pointer (some ⟨Q,0,none⟩))) (bn:w.cell? ⟨sb,2,none⟩=some (.pointer (some ⟨ib,0,none⟩)))
  (ad:∀t,ae w t→Calls Tryz.prog 135 #[.pointer (some ⟨ib,0,none⟩),.agg #[.int .u8 r.ad,.int .u8 r.top,.int .u8 r.J,.int .u8 r.lo.tag,.int .u32 r.lo.to,.int .u8 r.hi.tag,.int .u32 r.hi.to]] t fun e s=>e=.returned (.tuple #[.int .u32 0,.bool false])∧ae t s)
  (ay:∀t,Calls Tryz.prog 136 #[.agg #[.int .u8 r.ad,.int .u8 r.top,.int .u8 r.J,.int .u8 r.lo.tag,.int .u32 r.lo.to,.int .u8 r.hi.tag,.int .u32 r.hi.to],.int .i64 n] t fun e s=>e=.returned (.bool true)∧ae t s)
  (av:∀t,ae w t→Calls Tryz.prog 134 #[.pointer (some ⟨sb,0,none⟩),.int .u8 r.ad,.agg #[.int .u8 r.lo.tag,.int .u32 r.lo.to],.int .i64 (r.J+1)] t fun e s=>e=.returned (.bool true)∧ae t s)
  (ah:∀t,ae w t→Calls Tryz.prog 134 #[.pointer (some ⟨sb,0,none⟩),.int .u8 r.ad,.agg #[.int .u8 r.hi.tag,.int .u32 r.hi.to],.int .i64 (r.J+1)] t fun e s=>e=.returned (.bool true)∧ae t s)
  (id:Int) (D J:Nat→Prop) (ab:∀k,D k→k<w.heap.size) (hi:∀k,J k→k<w.heap.size) (has:¬D sb) (al:¬J sb) (O X:World→World→Prop)
  (aw:∀t,ae w t→Calls Tryz.prog 137 #[.pointer (some ⟨Q,0,none⟩),.agg #[.int .u8 r.ad,.int .u8 r.top,.int .u8 r.J,.int .u8 r.lo.tag,.int .u32 r.lo.to,.int .u8 r.hi.tag,.int .u32 r.hi.to]] t fun e s=>e=.returned (.tuple #[.int .u32 id,.bool true])∧af D t s∧O t s)
  (ax:∀t z u,ae w t→af D t z→O t z→ae z u→Calls Tryz.prog 138 #[.pointer (some ⟨ib,0,none⟩),.agg #[.int .u8 r.ad,.int .u8 r.top,.int .u8 r.J,.int .u8 r.lo.tag,.int .u32 r.lo.to,.int .u8 r.hi.tag,.int .u32 r.hi.to],.int .u32 id] u fun e s=>e=.returned (.tuple #[.int .u32 0,.bool false])∧af J u s∧X u s) :
  Calls Tryz.prog 80 #[.pointer (some ⟨sb,0,none⟩),.agg #[.int .u8 r.ad,.int .u8 r.top,.int .u8 r.J,.int .u8 r.lo.tag,.int .u32 r.lo.to,.int .u8 r.hi.tag,.int .u32 r.hi.to]] w fun e s=>e=.returned (.tuple #[.int .u32 id,.int .u8 0]) ∧
   ∃t z u,ae w t∧af D t z∧O t z∧ae z u∧af J u s∧X u s:=by
 have bd:=aa aw
 have be:=aa ax
 have a8:=aa ab
 have W:=aa has
 have a9:=aa hi
 have a':=aa al
 clear aw ax ab hi has al
 have t:sb<w.heap.size:=aJ Y
 have ba:=aa ad
 have bh:=aa ay
 have bc:=aa av
 have bb:=aa ah
 clear ad ay av ah
 go_enter Tryz.func80,Tryz.ntmps80
 go_wp2_with fail
 go_region_held3 (fun s=>s.cell? ⟨sb,2,none⟩=some (.pointer (some ⟨ib,0,none⟩))∧(s.cell? ⟨w.heap.size,0,none⟩=some (.int .u8 r.ad)∧s.cell? ⟨w.heap.size,1,none⟩=some (.int .u8 r.top)∧s.cell? ⟨w.heap.size,2,none⟩=some (.int .u8 r.J)∧s.cell? ⟨w.heap.size,3,none⟩=some (.int .u8 r.lo.tag)∧s.cell? ⟨w.heap.size,4,none⟩=some (.int .u32 r.lo.to)∧s.cell? ⟨w.heap.size,5,none⟩=some (.int .u8 r.hi.tag)∧s.cell? ⟨w.heap.size,6,none⟩=some (.int .u32 r.hi.to))) (go_keep) ((first|(go_at_call 135;refine(ba.out _ kp).mono ?_;rintro e w1 ⟨rfl,b5⟩;have U:ae (w.alloc (.cells #[.int .u8 r.ad,.int .u8 r.top,.int .u8 r.J,.int .u8 r.lo.tag,.int .u32 r.lo.to,.int .u8 r.hi.tag,.int .u32 r.hi.to] 134)) w1:=kp;obtain⟨a1,a2,a3,a4,a5,a6,a7⟩:=fZ U;have E:ae w w1:=(((ae.refl _).alloc _).trans U);have a0:=U.size;simp only[ak]at a0;have bt:=E.cell Y;have bw:=E.cell bi;have b1:=E.cell bn)))
 go_wp2_with fail
 have bv:=au.cell bt
 have cf:=au.cell a1
 have ch:=au.cell a2
 have ci:=au.cell a3
 have cj:=au.cell a4
 have cl:=au.cell a5
 have cn:=au.cell a6
 have co:=au.cell a7
 refine eJ (w1) (by kernel_rfl) (by kernel_rfl) kp ?_;(repeat (go_big_quiet_step ((first|(go_at_call 136;refine Calls.b' (bh.out _))|(go_at_call 134;with_reducible refine Calls.b' (bc.out _ (E.trans (au.keep _))))|(go_at_call 134;with_reducible refine Calls.b' (bb.out _ (E.trans (au.keep _))))))));refine wpQuiet_nil ?_;rintro V ⟨⟨_,I⟩,rfl⟩;try dsimp only
 go_wp2_with fail
 have am:ae w V:=E.trans I
 have b0:=I.cell bw
 have b2:=I.cell b1
 obtain⟨cp,cv,cx,cy,cz,cB,cD⟩:=I.e4 ⟨a1,a2,a3,a4,a5,a6,a7⟩
 clear bv cf ch ci cj cl cn co b5
 have t:w.heap.size<V.heap.size:=by have:=I.size;omega
 have t:sb<V.heap.size:=by have:=I.size;omega
 have b6:¬D w.heap.size:=fun h=>by have:=a8.out _ h;omega
 have b7:¬J w.heap.size:=fun h=>by have:=a9.out _ h;omega
 clear a0
 go_region_held3 (fun s=>s.cell? ⟨sb,1,none⟩=some (.pointer (some ⟨Q,0,none⟩))∧(s.cell? ⟨w.heap.size,0,none⟩=some (.int .u8 r.ad)∧s.cell? ⟨w.heap.size,1,none⟩=some (.int .u8 r.top)∧s.cell? ⟨w.heap.size,2,none⟩=some (.int .u8 r.J)∧s.cell? ⟨w.heap.size,3,none⟩=some (.int .u8 r.lo.tag)∧s.cell? ⟨w.heap.size,4,none⟩=some (.int .u32 r.lo.to)∧s.cell? ⟨w.heap.size,5,none⟩=some (.int .u8 r.hi.tag)∧s.cell? ⟨w.heap.size,6,none⟩=some (.int .u32 r.hi.to))) (go_keep) ((first|(go_at_call 137;refine(bd.out _ kp).mono ?_;rintro e t ⟨rfl,N,Z⟩;have t:=N.cell (a:=⟨sb,1,none⟩) W.out b0;have b3:=N.cell (a:=⟨sb,2,none⟩) W.out b2;obtain⟨b8,b9,ca,cb,cc,cd,ce⟩:=N.e4 b6 ⟨cp,cv,cx,cy,cz,cB,cD⟩)))
 go_wp2_with fail
 go_region_held3 (fun s=>s.cell? ⟨sb,2,none⟩=some (.pointer (some ⟨ib,0,none⟩))∧(s.cell? ⟨w.heap.size,0,none⟩=some (.int .u8 r.ad)∧s.cell? ⟨w.heap.size,1,none⟩=some (.int .u8 r.top)∧s.cell? ⟨w.heap.size,2,none⟩=some (.int .u8 r.J)∧s.cell? ⟨w.heap.size,3,none⟩=some (.int .u8 r.lo.tag)∧s.cell? ⟨w.heap.size,4,none⟩=some (.int .u32 r.lo.to)∧s.cell? ⟨w.heap.size,5,none⟩=some (.int .u8 r.hi.tag)∧s.cell? ⟨w.heap.size,6,none⟩=some (.int .u32 r.hi.to))) (go_keep) ((first|(go_at_call 138;refine(be.out _ _ _ am.drew N Z kp).mono ?_;rintro e s ⟨rfl,T,b4⟩;have s:=T.cell (a:=⟨sb,2,none⟩) a'.out b3;obtain⟨s,t,u,z,D,E,I⟩:=T.e4 b7 ⟨b8,b9,ca,cb,cc,cd,ce⟩)))
 go_wp2
 go_ret2
 exact⟨rfl,_,_,_,am.drew,N,Z,(ae.refl _).drew,T,b4⟩
theorem jT {F:Nat→Prop}{w:World}{sb:Nat}{M:St}(h:aq F w sb M)(r:Rec)(Q:r.ok) :
  Calls Tryz.prog 80 #[.pointer (some ⟨sb,0,none⟩),.agg #[.int .u8 r.ad,.int .u8 r.top,.int .u8 r.J,.int .u8 r.lo.tag,.int .u32 r.lo.to,.int .u8 r.hi.tag,.int .u32 r.hi.to]] w fun e t=>
   e=.returned (.tuple #[.int .u32 (M.bs r),.int .u8 (M.bh r)])∧af F w t∧aq (aH F w t) t sb (M.ba r):=by
 have bv:=fun(u:World) (D:ae w u) (e:Edge) (he:e.ok)=>df (h.U D) r.ad e (r.J+1) he
 have bh:∀{e:Ending} {t:World} {i bb:Int},M.ba r=M→M.bs r=i→M.bh r=bb→e=.returned (.tuple #[.int .u32 i,.int .u8 bb])∧ae w t →
   e=.returned (.tuple #[.int .u32 (M.bs r),.int .u8 (M.bh r)])∧af F w t∧aq (aH F w t) t sb (M.ba r):=by
  intro e t i bb J av a8 ⟨bd,ah⟩
  rw[J,av,a8]
  have s:=h.U ah
  obtain⟨⟨U,ib,ts,X,Y,a3,a4,bb,cd,ce,cf,ch,ci⟩,b1,b2,b3⟩:=s
  refine⟨bd,ah.upd F,⟨⟨U,ib,ts,X,Y,a3,a4,bb,cd,ce,fun k s=>.inl (cf k s),fun k s=>.inl (ch k s),ci⟩,.inl b1,fun k s=>?_,b3⟩⟩
  rcases s with s|s
  ·exact b2 k s
  ·exact s.2
 have a1:=h.wf
 have bw:∀id,look M.cs id=some r↔M.b9 r=some id:=fun id=>ks h.b5 r id
 obtain⟨⟨U,ib,ts,X,Y,J,av,a8,bd,ah,a9,a',bn,be,bc⟩,b5,am,bb⟩:=h
 have Z:w.cell? ⟨sb,0,none⟩=some (.int .i64 M.n):=by rw[cell_of_row w sb 0 _ _ _ J];rfl
 have ab:w.cell? ⟨sb,1,none⟩=some (.pointer (some ⟨U,0,none⟩)):=by rw[cell_of_row w sb 1 _ _ _ J];rfl
 have ad:w.cell? ⟨sb,2,none⟩=some (.pointer (some ⟨ib,0,none⟩)):=by rw[cell_of_row w sb 2 _ _ _ J];rfl
 have O:∀u,ae w u→Calls Tryz.prog 135 #[.pointer (some ⟨ib,0,none⟩),.agg #[.int .u8 r.ad,.int .u8 r.top,.int .u8 r.J,.int .u8 r.lo.tag,.int .u32 r.lo.to,.int .u8 r.hi.tag,.int .u32 r.hi.to]] u fun e t=>e=.returned (.tuple #[.int .u32 ((M.b9 r).getD 0),.bool (M.b9 r).isSome])∧ae u t:=
  fun u D=>ug (a8.U D) r Q (M.b9 r) (fun id=>(ah r id).trans (bw id))
 have ax:=Q.J.1
 have ay:=Q.J.2
 have T:=fun u=>yh r Q M.n u
 cases hi:M.b9 r with
 |some id=>
  rw[hi]at O;refine(yE sb ib r id M.n _ w Z ab ad O).mono fun e t he=>?_;exact bh (by unfold St.ba;rw[hi]) (by unfold St.bs;rw[hi]) (by unfold St.bh;rw[hi]) he
 |none=>
  rw[hi]at O;have W:=fun u D=>bv u D r.lo Q.lo;have a0:=fun u D=>bv u D r.hi Q.hi;cases z:M.b2 r with
  |true=>
   have fin:∀{e:Ending} {t:World},e=.returned (.tuple #[.int .u32 0,.int .u8 1])∧ae w t→e=.returned (.tuple #[.int .u32 (M.bs r),.int .u8 (M.bh r)])∧af F w t∧aq (aH F w t) t sb (M.ba r):=
    bh (by unfold St.ba;rw[hi,z];rfl) (by unfold St.bs;rw[hi,z];rfl) (by unfold St.bh;rw[hi,z];rfl)
   unfold St.b2 at z;cases bb:iq r M.n with
   |false=>
    rw[bb]at T;exact(yA sb ib r ax ay M.n _ w Z ab ad O T).mono fun e t he=>fin he
   |true=>
    rw[bb]at T z;cases bb:M.leads r.ad r.lo (r.J+1)with
    |false=>
     rw[bb]at W;exact(yB sb ib r ax ay M.n _ w Z ab ad O T W).mono fun e t he=>fin he
    |true=>
     rw[bb]at W z;have bb:M.leads r.ad r.hi (r.J+1)=false:=(by simpa using z);rw[bb]at a0;exact(yC sb ib r ax ay M.n _ w Z ab ad O T W a0).mono fun e t he=>fin he
  |false=>
   have aw:=z;unfold St.b2 at aw;simp only[Bool.or_eq_false_iff,Bool.not_eq_false']at aw;rw[aw.1.1]at T;rw[aw.1.2]at W;rw[aw.2]at a0;by_cases V:M.a7≤M.len
   ·refine(yD sb ib r ax ay M.n U w Z ab ad O T W a0 (fun u D=>rk (av.U D) r V)).mono fun e t he=>?_;exact bh (by unfold St.ba;rw[hi,z];simp[V]) (by unfold St.bs;rw[hi,z];simp[V]) (by unfold St.bh;rw[hi,z];simp[V]) he
   ·have b0:M.len<M.a7:=(by omega);have b6:M.ba r=M.add r:=(by unfold St.ba;rw[hi,z];simp[V,St.add]);have b7:M.bs r=dT M.gone M.cs.length:=(by unfold St.bs;rw[hi,z];simp[V]);have b8:M.bh r=0:=(by unfold St.bh;rw[hi,z];simp[V]);obtain⟨b1,b2,b3⟩:=mB a1.gone;have V:=av.cp;have V:=a1.hX;have V:=a1.hL
    have b9:∀E,¬aK.has ts r E:=fun E V=>by
     have:=(bw E).1 ((ah r E).1 V);rw[hi]at this;cases this
    refine(yF sb ib r ax ay M.n U w Z ab ad O T W a0 (dT M.gone M.cs.length) X Y (fun k s=>am k (a9 k s)) (fun k s=>am k (a' k s)) be bc
     (fun u I=>dW (aH X u I) I U (cV M.cs M.gone r) M.gone.dropLast (M.len+1) M.a7)
     (fun u I=>∃a6,di (aH Y u I) I ib a6 (M.len+1)∧M.len+1=(c9 a6:Int)∧∀a5 E,aK.has a6 a5 E↔(a5=r∧E=dT M.gone M.cs.length)∨aK.has ts a5 E)
     (fun u D=>rj (av.U D) r Q b0) (fun u I bi a2 a7 b4 al=>?_)).mono ?_
    ·have D:=((a8.U a2).keep a7 (fun k s N=>bn k N s)).U al;exact ui D bd (by omega) r Q _ (by omega) (by omega) b9
    ·rintro e t ⟨rfl,u,I,bi,a2,a7,b4,al,ba,a6,ca,cb,cc⟩;rw[b6,b7,b8];have D:=a2.size;have D:=a7.size;have D:=al.size;have D:=ba.size;have cj:af F w t:=((((a2.upd F).bd (a7.mono (fun k _ s=>a9 k s))).bd (al.upd F)).bd (ba.mono (fun k _ s=>a' k s)))
     have bt:∀k,aH X u I k→¬Y k:=fun k s N=>by
      rcases s with s|s;·exact bn k s N
      ·have:=am k (a' k N);omega
     refine⟨rfl,cj,⟨⟨U,ib,a6,aH X u I,aH Y bi t,?_,?_,?_,?_,?_,?_,?_,?_,?_,?_⟩,.inl b5,?_,?_⟩⟩
     ·have hs:=bu J;show t.heap[sb]?=some (.cells #[.int .i64 M.n,_,_] _ _);rw[ba.block sb (by omega) bc,al.block sb (by omega),a7.block sb (by omega) be,a2.block sb hs];exact J
     ·rw[M.fb r];exact(b4.U al).keep ba bt
     ·rw[M.fb r];exact ca
     ·rw[M.fb r];exact cb
     ·intro a5 E;rw[cc,a1.fl r E a5,ah];constructor
      ·rintro(⟨a3,a4⟩|q);·exact .inl ⟨a4,a3⟩
       ·exact .inr q
      ·rintro(⟨a3,a4⟩|q);·exact .inl ⟨a4,a3⟩
       ·exact .inr q
     ·intro k s;rcases s with s|s;·exact .inl (a9 k s)
      ·exact .inr ⟨by omega,by omega⟩
     ·intro k s;rcases s with s|s;·exact .inl (a' k s)
      ·exact .inr ⟨by omega,by omega⟩
     ·intro k s N;rcases N with N|N;·exact bt k s N
      ·rcases s with s|s
       ·have:=am k (a9 k s);omega
       ·omega
     ·rintro(s|s);·exact be s
      ·have:=bu J;omega
     ·rintro(s|s);·exact bc s
      ·have:=bu J;omega
     ·intro k s;rcases s with s|s
      ·have:=am k s;omega
      ·exact s.2
     ·exact a1.add hi z b0
def St.new (n room:Int):St:=⟨[],[],n,room⟩
theorem look_nil (id:Int):look [] id=none:=by unfold look;split<;>simp
theorem St.hP {n room:Int}(h0:0≤n)(u:n≤16)(t:0≤room)(z:room≤1048576):(St.new n room).wf:=
 ⟨h0,u,fun id hid=>by simp[St.new]at hid,by simp[St.new],fun id r s=>by simp[St.new,look_nil]at s,fun r id u s=>by simp[St.new,look_nil]at s,by simp[St.len,St.new],t,z,by simp[St.len,St.new];exact t⟩
theorem pQ (n room:Int)(w:World)(h0:0≤n)(E:n≤16)(D:0≤room)(t:room≤1048576) :
  Calls Tryz.prog 68 #[.int .i64 n,.int .i64 room] w fun e z=>∃sb F,e=.returned (.tuple #[.pointer (some ⟨sb,0,none⟩),.int .u8 0])∧ae w z∧(∀k,F k→w.heap.size≤k)∧aq F z sb (St.new n room):=by
 go_enter Tryz.func68,Tryz.ntmps68
 go_wp2_with (first|(go_at_call 116;refine(ri _ _ D t).mono ?_;rintro e z ⟨rfl,rfl⟩)|(go_at_call 117;refine(uh _).mono ?_;rintro e w1 ⟨ib,rfl,N,s,I⟩))
 go_ret2
 refine⟨w1.heap.size,fun k=>w.heap.size≤k∧k<w1.heap.size+1,rfl,(((ae.refl w).alloc _).trans s).alloc _,fun k s=>s.1,?_⟩
 have hs:=s.size
 simp only[ak]at hs N
 have J:(w1.alloc (.cells #[.int .i64 n,.pointer (some ⟨w.heap.size,0,none⟩),.pointer (some ⟨ib,0,none⟩)] 132)).heap[w.heap.size]?=some (.cells #[.slice none 0 0,.slice none 0 0,.int .i64 0,.int .i64 room] 194 (0,0)):=
  (ae.alloc (ae.refl w1) _).heap (s.heap (heap_alloc_new w _))
 refine⟨⟨w.heap.size,ib,List.replicate 8 none,fun k=>k=w.heap.size,fun k=>(w.alloc (.cells #[.slice none 0 0,.slice none 0 0,.int .i64 0,.int .i64 room] 194)).heap.size≤k∧k<w1.heap.size,heap_alloc_new w1 _,?_,?_,?_,?_,?_,?_,?_,?_,?_⟩,?_,?_,St.hP h0 E D t⟩
 ·refine⟨⟨_,_,J,?_,?_,?_,?_⟩,rfl,by simp[St.new],by simp[St.new,St.len],by simp[St.new,St.len],t,fun id hid=>by simp[St.new]at hid,fun r Q=>by simp[St.new]at Q⟩;·exact World.ownsRow_nil _ _ _ _
  ·exact World.ownsRow_nil _ _ _ _
  ·intro k s;simp[Value.ownBlock]at s
  ·intro k s;simp[Value.ownBlock]at s
 ·exact I.U ((ae.refl w1).alloc _)
 ·rw[(ep.empty bJ 8).2.1];rfl
 ·intro r id;rw[show look (St.new n room).cs id=none from look_nil id];constructor;·intro u;exact((ep.empty bJ 8).2.2 r id u).elim
  ·intro u;cases u
 ·intro k s;omega
 ·intro k s;simp only[ak]at s;omega
 ·intro k s O;simp only[ak]at O;omega
 ·omega
 ·omega
 ·omega
 ·intro k s;rw[ak];exact s.2
end Go.Proofs.YtafkamlhimkbmaaGreat
