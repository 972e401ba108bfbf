/-
  Unfold of law12 over the state (printed by wip/mk_unfold.py).
-/
import Derived.Test.YtafkamlhimkbmaaGreatPUnfBase
namespace Go.Proofs.YtafkamlhimkbmaaGreat
set_option maxRecDepth 1000000
set_option maxHeartbeats 8000000
set_option linter.unusedSimpArgs false
set_option linter.unusedVariables false
open Go.RowKit

theorem B6 (j:Nat)(e:Edge)(w:World):Calls Tryz.prog 171 #[.pointer (some ⟨j,0,none⟩),.agg #[.int .u8 e.tag,.int .u32 e.to],.int .i64 (-1)] w fun r w'=>r=.returned (.string ⟨#[63]⟩)∧aa w w':=by
 go_enter Tryz.func171,Tryz.ntmps171
 go_wp2
 go_ret
 exact⟨rfl,by(exact kp)⟩

theorem B7 (s:Nat)(e:Edge)(d:Int)(w:World)(t:0≤d)(q:e.ok)(z:e.to<2):Calls Tryz.prog 171 #[.pointer (some ⟨s,0,none⟩),.agg #[.int .u8 e.tag,.int .u32 e.to],.int .i64 d] w fun r w'=>r=.returned (.string (aB e.to))∧aa w w':=by
 have s:0≤e.to:=q.2.1;have j:=Lib.hid (fun q=>cU e.to q s (by omega));go_enter Tryz.func171,Tryz.ntmps171
 go_wp2_with (first|(go_at_call 214;refine(j.out _).mono ?_;rintro j w1 ⟨rfl,j⟩)|fail)
 go_ret
 exact⟨rfl,by(exact kp)⟩

theorem Ca {F:Nat→Prop}{w:World}{J:Nat}{M:St}(h:ag F w J M)(am:M.n≤9)(e:Edge)(d:Int)(n:Nat)(aw:0≤d)(a1:d≤100)(N:n≤20)(ab:e.ok)(av:¬e.to<2)
  (S:∀(t:Edge) (q:World),aa w q→t.ok→Calls Tryz.prog 171 #[.pointer (some ⟨J,0,none⟩),.agg #[.int .u8 t.tag,.int .u32 t.to],.int .i64 (d-1)] q fun r w'=>r=.returned (.string (ay 1 M n t))∧aa q w') :
  Calls Tryz.prog 171 #[.pointer (some ⟨J,0,none⟩),.agg #[.int .u8 e.tag,.int .u32 e.to],.int .i64 d] w fun r w'=>r=.returned (.string (ay 1 M (n+1) e))∧aa w w':=by
 have I:ay 1 M (n+1) e=(let r:=an (look M.cs e.to);⟨#[40]⟩++aB r.I++⟨#[32]⟩++ay 1 M n r.lo++⟨#[32]⟩++ay 1 M n r.hi++⟨#[41]⟩):=by
  show(if(1:Int)=5 then _ else if e.to<2 then _ else _)=_;rw[if_neg (by decide),if_neg av];rw[if_neg (by decide)]
 rw[I]
 have E:=fun(q:World) (A:aa w q)=>ef (h.U A) e.to ab.2.2
 have z:=jy h.wf am e.to
 have s:=h.ev e.to
 obtain⟨r,O⟩:∃r,r=an (look M.cs e.to):=⟨_,rfl⟩
 obtain⟨b,K⟩:∃b,b=eZ (look M.cs e.to):=⟨_,rfl⟩
 simp only[←O,←K]at E z s ⊢
 have ab:0≤r.I:=s.I.1
 have J:r.I≤255:=s.I.2
 have J:0≤r.J:=s.J.1
 have am:r.J≤255:=s.J.2
 have T:=Lib.hid E
 have X:=Lib.hid (fun q=>cU r.I q ab z.1)
 have ab:=Lib.hid (fun q=>cU r.J q J z.2)
 have W:=Lib.hid s.lo
 have U:=Lib.hid s.hi
 have Z:=Lib.hid S
 have J:=Lib.hid I
 clear h E S z s O K I
 go_enter Tryz.func171,Tryz.ntmps171
 go_wp2_with (first|(go_at_call 78;refine(T.out _ (by(exact kp))).mono ?_;rintro s j ⟨rfl,s⟩;have L:aa w j:=(by(exact kp)))|fail)
 have s:=aj.cell (W0:=j.alloc (.cells #[.int .u8 r.ad,.int .u8 r.I,.int .u8 r.J,.int .u8 r.lo.tag,.int .u32 r.lo.to,.int .u8 r.hi.tag,.int .u32 r.hi.to] 134)) (a:=⟨j.heap.size,1,none⟩) (v:=.int .u8 r.I) (by simp)
 have s:=aj.cell (W0:=j.alloc (.cells #[.int .u8 r.ad,.int .u8 r.I,.int .u8 r.J,.int .u8 r.lo.tag,.int .u32 r.lo.to,.int .u8 r.hi.tag,.int .u32 r.hi.to] 134)) (a:=⟨j.heap.size,2,none⟩) (v:=.int .u8 r.J) (by simp)
 have s:=aj.cell (W0:=j.alloc (.cells #[.int .u8 r.ad,.int .u8 r.I,.int .u8 r.J,.int .u8 r.lo.tag,.int .u32 r.lo.to,.int .u8 r.hi.tag,.int .u32 r.hi.to] 134)) (a:=⟨j.heap.size,3,none⟩) (v:=.int .u8 r.lo.tag) (by simp)
 have s:=aj.cell (W0:=j.alloc (.cells #[.int .u8 r.ad,.int .u8 r.I,.int .u8 r.J,.int .u8 r.lo.tag,.int .u32 r.lo.to,.int .u8 r.hi.tag,.int .u32 r.hi.to] 134)) (a:=⟨j.heap.size,4,none⟩) (v:=.int .u32 r.lo.to) (by simp)
 have s:=aj.cell (W0:=j.alloc (.cells #[.int .u8 r.ad,.int .u8 r.I,.int .u8 r.J,.int .u8 r.lo.tag,.int .u32 r.lo.to,.int .u8 r.hi.tag,.int .u32 r.hi.to] 134)) (a:=⟨j.heap.size,5,none⟩) (v:=.int .u8 r.hi.tag) (by simp)
 have s:=aj.cell (W0:=j.alloc (.cells #[.int .u8 r.ad,.int .u8 r.I,.int .u8 r.J,.int .u8 r.lo.tag,.int .u32 r.lo.to,.int .u8 r.hi.tag,.int .u32 r.hi.to] 134)) (a:=⟨j.heap.size,6,none⟩) (v:=.int .u32 r.hi.to) (by simp)
 have Y:=Lib.hid (fun(t:Edge) (q:World) (A:aa (j.alloc (.cells #[.int .u8 r.ad,.int .u8 r.I,.int .u8 r.J,.int .u8 r.lo.tag,.int .u32 r.lo.to,.int .u8 r.hi.tag,.int .u32 r.hi.to] 134)) q)=>Z.out t q (L.trans (((aa.refl _).alloc _).trans A)))
 have q:=bK r.I
 have q:=bK r.J
 have q:=fX 1 M N r.lo
 have q:=fX 1 M N r.hi
 have q:IntKind.i64.wrap (d-1)=d-1:=IntWalk.i64_in _ (by omega)
 refine dT (j.alloc (.cells #[.int .u8 r.ad,.int .u8 r.I,.int .u8 r.J,.int .u8 r.lo.tag,.int .u32 r.lo.to,.int .u8 r.hi.tag,.int .u32 r.hi.to] 134)) (by kernel_rfl) (by kernel_rfl) (aa.refl _) ?_
 (repeat (go_big_quiet_step ((first|(go_at_call 214;with_reducible refine Calls.b5 (X.out _))|(go_at_call 171;with_reducible refine Calls.b5 (Y.out _ _ (aj.a5 _) (by first|exact W.out|exact U.out)))))))
 refine wpQuiet_nil ?_
 rintro j ⟨⟨a2,ad⟩,rfl⟩
 try dsimp only
 go_wp2_with fail
 go_ret
 exact⟨rfl,L.trans (((aa.refl _).alloc _).trans ad)⟩

theorem B5 {F:Nat→Prop}{w:World}{q:Nat}{M:St}(h:ag F w q M)(A:M.n≤9):∀(n:Nat),n≤20→∀(e:Edge) (j:World),aa w j→e.ok →
  Calls Tryz.prog 171 #[.pointer (some ⟨q,0,none⟩),.agg #[.int .u8 e.tag,.int .u32 e.to],.int .i64 ((n:Int)-1)] j fun r w'=>r=.returned (.string (ay 1 M n e))∧aa j w':=by
 intro n
 induction n with
 |zero=>intro _ e j _ _;exact B6 q e j
 |succ n I=>
  intro s e j t z;have s:((n+1:Nat):Int)-1=(n:Int):=by omega
  rw[s];by_cases s:e.to<2
  ·have E:ay 1 M (n+1) e=aB e.to:=by
    show(if(1:Int)=5 then _ else if e.to<2 then _ else _)=_;rw[if_neg (by decide),if_pos s]
   rw[E];exact B7 q e _ j (by omega) z s
  ·exact Ca (h.U t) A e _ n (by omega) (by omega) (by omega) z s (fun q j s z=>I (by omega) q j (t.trans s) z)

theorem Cv (j:Nat)(e:Edge)(w:World):Calls Tryz.prog 172 #[.pointer (some ⟨j,0,none⟩),.agg #[.int .u8 e.tag,.int .u32 e.to],.int .i64 (-1)] w fun r w'=>r=.returned (.string ⟨#[63]⟩)∧aa w w':=by
 go_enter Tryz.func172,Tryz.ntmps172
 go_wp2
 go_ret
 exact⟨rfl,by(exact kp)⟩

theorem Cw (s:Nat)(e:Edge)(d:Int)(w:World)(t:0≤d)(q:e.ok)(z:e.to<2):Calls Tryz.prog 172 #[.pointer (some ⟨s,0,none⟩),.agg #[.int .u8 e.tag,.int .u32 e.to],.int .i64 d] w fun r w'=>r=.returned (.string (aB e.to))∧aa w w':=by
 have s:0≤e.to:=q.2.1;have j:=Lib.hid (fun q=>cU e.to q s (by omega));go_enter Tryz.func172,Tryz.ntmps172
 go_wp2_with (first|(go_at_call 214;refine(j.out _).mono ?_;rintro j w1 ⟨rfl,j⟩)|fail)
 go_ret
 exact⟨rfl,by(exact kp)⟩

theorem Cx {F:Nat→Prop}{w:World}{J:Nat}{M:St}(h:ag F w J M)(am:M.n≤9)(e:Edge)(d:Int)(n:Nat)(aw:0≤d)(a1:d≤100)(N:n≤20)(ab:e.ok)(av:¬e.to<2)
  (S:∀(t:Edge) (q:World),aa w q→t.ok→Calls Tryz.prog 172 #[.pointer (some ⟨J,0,none⟩),.agg #[.int .u8 t.tag,.int .u32 t.to],.int .i64 (d-1)] q fun r w'=>r=.returned (.string (ay 2 M n t))∧aa q w') :
  Calls Tryz.prog 172 #[.pointer (some ⟨J,0,none⟩),.agg #[.int .u8 e.tag,.int .u32 e.to],.int .i64 d] w fun r w'=>r=.returned (.string (ay 2 M (n+1) e))∧aa w w':=by
 have I:ay 2 M (n+1) e=(let r:=an (look M.cs e.to);⟨#[40]⟩++aB r.I++⟨#[32]⟩++ay 2 M n r.lo++⟨#[32]⟩++ay 2 M n r.hi++⟨#[41]⟩):=by
  show(if(2:Int)=5 then _ else if e.to<2 then _ else _)=_;rw[if_neg (by decide),if_neg av];rw[if_neg (by decide)]
 rw[I]
 have E:=fun(q:World) (A:aa w q)=>ef (h.U A) e.to ab.2.2
 have z:=jy h.wf am e.to
 have s:=h.ev e.to
 obtain⟨r,O⟩:∃r,r=an (look M.cs e.to):=⟨_,rfl⟩
 obtain⟨b,K⟩:∃b,b=eZ (look M.cs e.to):=⟨_,rfl⟩
 simp only[←O,←K]at E z s ⊢
 have ab:0≤r.I:=s.I.1
 have J:r.I≤255:=s.I.2
 have J:0≤r.J:=s.J.1
 have am:r.J≤255:=s.J.2
 have T:=Lib.hid E
 have X:=Lib.hid (fun q=>cU r.I q ab z.1)
 have ab:=Lib.hid (fun q=>cU r.J q J z.2)
 have W:=Lib.hid s.lo
 have U:=Lib.hid s.hi
 have Z:=Lib.hid S
 have J:=Lib.hid I
 clear h E S z s O K I
 go_enter Tryz.func172,Tryz.ntmps172
 go_wp2_with (first|(go_at_call 78;refine(T.out _ (by(exact kp))).mono ?_;rintro s j ⟨rfl,s⟩;have L:aa w j:=(by(exact kp)))|fail)
 have s:=aj.cell (W0:=j.alloc (.cells #[.int .u8 r.ad,.int .u8 r.I,.int .u8 r.J,.int .u8 r.lo.tag,.int .u32 r.lo.to,.int .u8 r.hi.tag,.int .u32 r.hi.to] 134)) (a:=⟨j.heap.size,1,none⟩) (v:=.int .u8 r.I) (by simp)
 have s:=aj.cell (W0:=j.alloc (.cells #[.int .u8 r.ad,.int .u8 r.I,.int .u8 r.J,.int .u8 r.lo.tag,.int .u32 r.lo.to,.int .u8 r.hi.tag,.int .u32 r.hi.to] 134)) (a:=⟨j.heap.size,2,none⟩) (v:=.int .u8 r.J) (by simp)
 have s:=aj.cell (W0:=j.alloc (.cells #[.int .u8 r.ad,.int .u8 r.I,.int .u8 r.J,.int .u8 r.lo.tag,.int .u32 r.lo.to,.int .u8 r.hi.tag,.int .u32 r.hi.to] 134)) (a:=⟨j.heap.size,3,none⟩) (v:=.int .u8 r.lo.tag) (by simp)
 have s:=aj.cell (W0:=j.alloc (.cells #[.int .u8 r.ad,.int .u8 r.I,.int .u8 r.J,.int .u8 r.lo.tag,.int .u32 r.lo.to,.int .u8 r.hi.tag,.int .u32 r.hi.to] 134)) (a:=⟨j.heap.size,4,none⟩) (v:=.int .u32 r.lo.to) (by simp)
 have s:=aj.cell (W0:=j.alloc (.cells #[.int .u8 r.ad,.int .u8 r.I,.int .u8 r.J,.int .u8 r.lo.tag,.int .u32 r.lo.to,.int .u8 r.hi.tag,.int .u32 r.hi.to] 134)) (a:=⟨j.heap.size,5,none⟩) (v:=.int .u8 r.hi.tag) (by simp)
 have s:=aj.cell (W0:=j.alloc (.cells #[.int .u8 r.ad,.int .u8 r.I,.int .u8 r.J,.int .u8 r.lo.tag,.int .u32 r.lo.to,.int .u8 r.hi.tag,.int .u32 r.hi.to] 134)) (a:=⟨j.heap.size,6,none⟩) (v:=.int .u32 r.hi.to) (by simp)
 have Y:=Lib.hid (fun(t:Edge) (q:World) (A:aa (j.alloc (.cells #[.int .u8 r.ad,.int .u8 r.I,.int .u8 r.J,.int .u8 r.lo.tag,.int .u32 r.lo.to,.int .u8 r.hi.tag,.int .u32 r.hi.to] 134)) q)=>Z.out t q (L.trans (((aa.refl _).alloc _).trans A)))
 have q:=bK r.I
 have q:=bK r.J
 have q:=fX 2 M N r.lo
 have q:=fX 2 M N r.hi
 have q:IntKind.i64.wrap (d-1)=d-1:=IntWalk.i64_in _ (by omega)
 refine dT (j.alloc (.cells #[.int .u8 r.ad,.int .u8 r.I,.int .u8 r.J,.int .u8 r.lo.tag,.int .u32 r.lo.to,.int .u8 r.hi.tag,.int .u32 r.hi.to] 134)) (by kernel_rfl) (by kernel_rfl) (aa.refl _) ?_
 (repeat (go_big_quiet_step ((first|(go_at_call 214;with_reducible refine Calls.b5 (X.out _))|(go_at_call 172;with_reducible refine Calls.b5 (Y.out _ _ (aj.a5 _) (by first|exact W.out|exact U.out)))))))
 refine wpQuiet_nil ?_
 rintro j ⟨⟨a2,ad⟩,rfl⟩
 try dsimp only
 go_wp2_with fail
 go_ret
 exact⟨rfl,L.trans (((aa.refl _).alloc _).trans ad)⟩

theorem Cu {F:Nat→Prop}{w:World}{q:Nat}{M:St}(h:ag F w q M)(A:M.n≤9):∀(n:Nat),n≤20→∀(e:Edge) (j:World),aa w j→e.ok →
  Calls Tryz.prog 172 #[.pointer (some ⟨q,0,none⟩),.agg #[.int .u8 e.tag,.int .u32 e.to],.int .i64 ((n:Int)-1)] j fun r w'=>r=.returned (.string (ay 2 M n e))∧aa j w':=by
 intro n
 induction n with
 |zero=>intro _ e j _ _;exact Cv q e j
 |succ n I=>
  intro s e j t z;have s:((n+1:Nat):Int)-1=(n:Int):=by omega
  rw[s];by_cases s:e.to<2
  ·have E:ay 2 M (n+1) e=aB e.to:=by
    show(if(2:Int)=5 then _ else if e.to<2 then _ else _)=_;rw[if_neg (by decide),if_pos s]
   rw[E];exact Cw q e _ j (by omega) z s
  ·exact Cx (h.U t) A e _ n (by omega) (by omega) (by omega) z s (fun q j s z=>I (by omega) q j (t.trans s) z)

theorem Cc (j:Nat)(e:Edge)(w:World):Calls Tryz.prog 173 #[.pointer (some ⟨j,0,none⟩),.agg #[.int .u8 e.tag,.int .u32 e.to],.int .i64 (-1)] w fun r w'=>r=.returned (.string ⟨#[63]⟩)∧aa w w':=by
 go_enter Tryz.func173,Tryz.ntmps173
 go_wp2
 go_ret
 exact⟨rfl,by(exact kp)⟩

theorem Cd (s:Nat)(e:Edge)(d:Int)(w:World)(t:0≤d)(q:e.ok)(z:e.to<2):Calls Tryz.prog 173 #[.pointer (some ⟨s,0,none⟩),.agg #[.int .u8 e.tag,.int .u32 e.to],.int .i64 d] w fun r w'=>r=.returned (.string (aB e.to))∧aa w w':=by
 have s:0≤e.to:=q.2.1;have j:=Lib.hid (fun q=>cU e.to q s (by omega));go_enter Tryz.func173,Tryz.ntmps173
 go_wp2_with (first|(go_at_call 214;refine(j.out _).mono ?_;rintro j w1 ⟨rfl,j⟩)|fail)
 go_ret
 exact⟨rfl,by(exact kp)⟩

theorem Ce {F:Nat→Prop}{w:World}{J:Nat}{M:St}(h:ag F w J M)(av:M.n≤9)(e:Edge)(d:Int)(n:Nat)(a1:0≤d)(a2:d≤100)(N:n≤20)(ad:e.ok)(aw:¬e.to<2)
  (S:∀(t:Edge) (q:World),aa w q→t.ok→Calls Tryz.prog 173 #[.pointer (some ⟨J,0,none⟩),.agg #[.int .u8 t.tag,.int .u32 t.to],.int .i64 (d-1)] q fun r w'=>r=.returned (.string (ay 3 M n t))∧aa q w') :
  Calls Tryz.prog 173 #[.pointer (some ⟨J,0,none⟩),.agg #[.int .u8 e.tag,.int .u32 e.to],.int .i64 d] w fun r w'=>r=.returned (.string (ay 3 M (n+1) e))∧aa w w':=by
 have I:ay 3 M (n+1) e=(let r:=an (look M.cs e.to);⟨#[40]⟩++aB r.I++⟨#[58]⟩++aB r.J++⟨#[32]⟩++ay 3 M n r.lo++⟨#[32]⟩++ay 3 M n r.hi++⟨#[41]⟩):=by
  show(if(3:Int)=5 then _ else if e.to<2 then _ else _)=_;rw[if_neg (by decide),if_neg aw];rw[if_pos (by decide)]
 rw[I]
 have E:=fun(q:World) (A:aa w q)=>ef (h.U A) e.to ad.2.2
 have z:=jy h.wf av e.to
 have s:=h.ev e.to
 obtain⟨r,O⟩:∃r,r=an (look M.cs e.to):=⟨_,rfl⟩
 obtain⟨b,K⟩:∃b,b=eZ (look M.cs e.to):=⟨_,rfl⟩
 simp only[←O,←K]at E z s ⊢
 have ad:0≤r.I:=s.I.1
 have J:r.I≤255:=s.I.2
 have J:0≤r.J:=s.J.1
 have av:r.J≤255:=s.J.2
 have T:=Lib.hid E
 have Y:=Lib.hid (fun q=>cU r.I q ad z.1)
 have X:=Lib.hid (fun q=>cU r.J q J z.2)
 have W:=Lib.hid s.lo
 have U:=Lib.hid s.hi
 have ab:=Lib.hid S
 have J:=Lib.hid I
 clear h E S z s O K I
 go_enter Tryz.func173,Tryz.ntmps173
 go_wp2_with (first|(go_at_call 78;refine(T.out _ (by(exact kp))).mono ?_;rintro s j ⟨rfl,s⟩;have L:aa w j:=(by(exact kp)))|fail)
 have s:=aj.cell (W0:=j.alloc (.cells #[.int .u8 r.ad,.int .u8 r.I,.int .u8 r.J,.int .u8 r.lo.tag,.int .u32 r.lo.to,.int .u8 r.hi.tag,.int .u32 r.hi.to] 134)) (a:=⟨j.heap.size,1,none⟩) (v:=.int .u8 r.I) (by simp)
 have s:=aj.cell (W0:=j.alloc (.cells #[.int .u8 r.ad,.int .u8 r.I,.int .u8 r.J,.int .u8 r.lo.tag,.int .u32 r.lo.to,.int .u8 r.hi.tag,.int .u32 r.hi.to] 134)) (a:=⟨j.heap.size,2,none⟩) (v:=.int .u8 r.J) (by simp)
 have s:=aj.cell (W0:=j.alloc (.cells #[.int .u8 r.ad,.int .u8 r.I,.int .u8 r.J,.int .u8 r.lo.tag,.int .u32 r.lo.to,.int .u8 r.hi.tag,.int .u32 r.hi.to] 134)) (a:=⟨j.heap.size,3,none⟩) (v:=.int .u8 r.lo.tag) (by simp)
 have s:=aj.cell (W0:=j.alloc (.cells #[.int .u8 r.ad,.int .u8 r.I,.int .u8 r.J,.int .u8 r.lo.tag,.int .u32 r.lo.to,.int .u8 r.hi.tag,.int .u32 r.hi.to] 134)) (a:=⟨j.heap.size,4,none⟩) (v:=.int .u32 r.lo.to) (by simp)
 have s:=aj.cell (W0:=j.alloc (.cells #[.int .u8 r.ad,.int .u8 r.I,.int .u8 r.J,.int .u8 r.lo.tag,.int .u32 r.lo.to,.int .u8 r.hi.tag,.int .u32 r.hi.to] 134)) (a:=⟨j.heap.size,5,none⟩) (v:=.int .u8 r.hi.tag) (by simp)
 have s:=aj.cell (W0:=j.alloc (.cells #[.int .u8 r.ad,.int .u8 r.I,.int .u8 r.J,.int .u8 r.lo.tag,.int .u32 r.lo.to,.int .u8 r.hi.tag,.int .u32 r.hi.to] 134)) (a:=⟨j.heap.size,6,none⟩) (v:=.int .u32 r.hi.to) (by simp)
 have Z:=Lib.hid (fun(t:Edge) (q:World) (A:aa (j.alloc (.cells #[.int .u8 r.ad,.int .u8 r.I,.int .u8 r.J,.int .u8 r.lo.tag,.int .u32 r.lo.to,.int .u8 r.hi.tag,.int .u32 r.hi.to] 134)) q)=>ab.out t q (L.trans (((aa.refl _).alloc _).trans A)))
 have q:=bK r.I
 have q:=bK r.J
 have q:=fX 3 M N r.lo
 have q:=fX 3 M N r.hi
 have q:IntKind.i64.wrap (d-1)=d-1:=IntWalk.i64_in _ (by omega)
 refine dT (j.alloc (.cells #[.int .u8 r.ad,.int .u8 r.I,.int .u8 r.J,.int .u8 r.lo.tag,.int .u32 r.lo.to,.int .u8 r.hi.tag,.int .u32 r.hi.to] 134)) (by kernel_rfl) (by kernel_rfl) (aa.refl _) ?_
 (repeat (go_big_quiet_step ((first|(go_at_call 214;with_reducible refine Calls.b5 (Y.out _))|(go_at_call 214;with_reducible refine Calls.b5 (X.out _))|(go_at_call 173;with_reducible refine Calls.b5 (Z.out _ _ (aj.a5 _) (by first|exact W.out|exact U.out)))))))
 refine wpQuiet_nil ?_
 rintro j ⟨⟨a3,am⟩,rfl⟩
 try dsimp only
 go_wp2_with fail
 go_ret
 exact⟨rfl,L.trans (((aa.refl _).alloc _).trans am)⟩

theorem Cb {F:Nat→Prop}{w:World}{q:Nat}{M:St}(h:ag F w q M)(A:M.n≤9):∀(n:Nat),n≤20→∀(e:Edge) (j:World),aa w j→e.ok →
  Calls Tryz.prog 173 #[.pointer (some ⟨q,0,none⟩),.agg #[.int .u8 e.tag,.int .u32 e.to],.int .i64 ((n:Int)-1)] j fun r w'=>r=.returned (.string (ay 3 M n e))∧aa j w':=by
 intro n
 induction n with
 |zero=>intro _ e j _ _;exact Cc q e j
 |succ n I=>
  intro s e j t z;have s:((n+1:Nat):Int)-1=(n:Int):=by omega
  rw[s];by_cases s:e.to<2
  ·have E:ay 3 M (n+1) e=aB e.to:=by
    show(if(3:Int)=5 then _ else if e.to<2 then _ else _)=_;rw[if_neg (by decide),if_pos s]
   rw[E];exact Cd q e _ j (by omega) z s
  ·exact Ce (h.U t) A e _ n (by omega) (by omega) (by omega) z s (fun q j s z=>I (by omega) q j (t.trans s) z)

theorem Ch (j:Nat)(e:Edge)(w:World):Calls Tryz.prog 174 #[.pointer (some ⟨j,0,none⟩),.agg #[.int .u8 e.tag,.int .u32 e.to],.int .i64 (-1)] w fun r w'=>r=.returned (.string ⟨#[63]⟩)∧aa w w':=by
 go_enter Tryz.func174,Tryz.ntmps174
 go_wp2
 go_ret
 exact⟨rfl,by(exact kp)⟩

theorem Ci (s:Nat)(e:Edge)(d:Int)(w:World)(t:0≤d)(q:e.ok)(z:e.to<2):Calls Tryz.prog 174 #[.pointer (some ⟨s,0,none⟩),.agg #[.int .u8 e.tag,.int .u32 e.to],.int .i64 d] w fun r w'=>r=.returned (.string (aB e.to))∧aa w w':=by
 have s:0≤e.to:=q.2.1;have j:=Lib.hid (fun q=>cU e.to q s (by omega));go_enter Tryz.func174,Tryz.ntmps174
 go_wp2_with (first|(go_at_call 214;refine(j.out _).mono ?_;rintro j w1 ⟨rfl,j⟩)|fail)
 go_ret
 exact⟨rfl,by(exact kp)⟩

theorem Cj {F:Nat→Prop}{w:World}{J:Nat}{M:St}(h:ag F w J M)(av:M.n≤9)(e:Edge)(d:Int)(n:Nat)(a1:0≤d)(a2:d≤100)(N:n≤20)(ad:e.ok)(aw:¬e.to<2)
  (S:∀(t:Edge) (q:World),aa w q→t.ok→Calls Tryz.prog 174 #[.pointer (some ⟨J,0,none⟩),.agg #[.int .u8 t.tag,.int .u32 t.to],.int .i64 (d-1)] q fun r w'=>r=.returned (.string (ay 4 M n t))∧aa q w') :
  Calls Tryz.prog 174 #[.pointer (some ⟨J,0,none⟩),.agg #[.int .u8 e.tag,.int .u32 e.to],.int .i64 d] w fun r w'=>r=.returned (.string (ay 4 M (n+1) e))∧aa w w':=by
 have I:ay 4 M (n+1) e=(let r:=an (look M.cs e.to);⟨#[40]⟩++aB r.I++⟨#[58]⟩++aB r.J++⟨#[32]⟩++ay 4 M n r.lo++⟨#[32]⟩++ay 4 M n r.hi++⟨#[41]⟩):=by
  show(if(4:Int)=5 then _ else if e.to<2 then _ else _)=_;rw[if_neg (by decide),if_neg aw];rw[if_pos (by decide)]
 rw[I]
 have E:=fun(q:World) (A:aa w q)=>ef (h.U A) e.to ad.2.2
 have z:=jy h.wf av e.to
 have s:=h.ev e.to
 obtain⟨r,O⟩:∃r,r=an (look M.cs e.to):=⟨_,rfl⟩
 obtain⟨b,K⟩:∃b,b=eZ (look M.cs e.to):=⟨_,rfl⟩
 simp only[←O,←K]at E z s ⊢
 have ad:0≤r.I:=s.I.1
 have J:r.I≤255:=s.I.2
 have J:0≤r.J:=s.J.1
 have av:r.J≤255:=s.J.2
 have T:=Lib.hid E
 have Y:=Lib.hid (fun q=>cU r.I q ad z.1)
 have X:=Lib.hid (fun q=>cU r.J q J z.2)
 have W:=Lib.hid s.lo
 have U:=Lib.hid s.hi
 have ab:=Lib.hid S
 have J:=Lib.hid I
 clear h E S z s O K I
 go_enter Tryz.func174,Tryz.ntmps174
 go_wp2_with (first|(go_at_call 78;refine(T.out _ (by(exact kp))).mono ?_;rintro s j ⟨rfl,s⟩;have L:aa w j:=(by(exact kp)))|fail)
 have s:=aj.cell (W0:=j.alloc (.cells #[.int .u8 r.ad,.int .u8 r.I,.int .u8 r.J,.int .u8 r.lo.tag,.int .u32 r.lo.to,.int .u8 r.hi.tag,.int .u32 r.hi.to] 134)) (a:=⟨j.heap.size,1,none⟩) (v:=.int .u8 r.I) (by simp)
 have s:=aj.cell (W0:=j.alloc (.cells #[.int .u8 r.ad,.int .u8 r.I,.int .u8 r.J,.int .u8 r.lo.tag,.int .u32 r.lo.to,.int .u8 r.hi.tag,.int .u32 r.hi.to] 134)) (a:=⟨j.heap.size,2,none⟩) (v:=.int .u8 r.J) (by simp)
 have s:=aj.cell (W0:=j.alloc (.cells #[.int .u8 r.ad,.int .u8 r.I,.int .u8 r.J,.int .u8 r.lo.tag,.int .u32 r.lo.to,.int .u8 r.hi.tag,.int .u32 r.hi.to] 134)) (a:=⟨j.heap.size,3,none⟩) (v:=.int .u8 r.lo.tag) (by simp)
 have s:=aj.cell (W0:=j.alloc (.cells #[.int .u8 r.ad,.int .u8 r.I,.int .u8 r.J,.int .u8 r.lo.tag,.int .u32 r.lo.to,.int .u8 r.hi.tag,.int .u32 r.hi.to] 134)) (a:=⟨j.heap.size,4,none⟩) (v:=.int .u32 r.lo.to) (by simp)
 have s:=aj.cell (W0:=j.alloc (.cells #[.int .u8 r.ad,.int .u8 r.I,.int .u8 r.J,.int .u8 r.lo.tag,.int .u32 r.lo.to,.int .u8 r.hi.tag,.int .u32 r.hi.to] 134)) (a:=⟨j.heap.size,5,none⟩) (v:=.int .u8 r.hi.tag) (by simp)
 have s:=aj.cell (W0:=j.alloc (.cells #[.int .u8 r.ad,.int .u8 r.I,.int .u8 r.J,.int .u8 r.lo.tag,.int .u32 r.lo.to,.int .u8 r.hi.tag,.int .u32 r.hi.to] 134)) (a:=⟨j.heap.size,6,none⟩) (v:=.int .u32 r.hi.to) (by simp)
 have Z:=Lib.hid (fun(t:Edge) (q:World) (A:aa (j.alloc (.cells #[.int .u8 r.ad,.int .u8 r.I,.int .u8 r.J,.int .u8 r.lo.tag,.int .u32 r.lo.to,.int .u8 r.hi.tag,.int .u32 r.hi.to] 134)) q)=>ab.out t q (L.trans (((aa.refl _).alloc _).trans A)))
 have q:=bK r.I
 have q:=bK r.J
 have q:=fX 4 M N r.lo
 have q:=fX 4 M N r.hi
 have q:IntKind.i64.wrap (d-1)=d-1:=IntWalk.i64_in _ (by omega)
 refine dT (j.alloc (.cells #[.int .u8 r.ad,.int .u8 r.I,.int .u8 r.J,.int .u8 r.lo.tag,.int .u32 r.lo.to,.int .u8 r.hi.tag,.int .u32 r.hi.to] 134)) (by kernel_rfl) (by kernel_rfl) (aa.refl _) ?_
 (repeat (go_big_quiet_step ((first|(go_at_call 214;with_reducible refine Calls.b5 (Y.out _))|(go_at_call 214;with_reducible refine Calls.b5 (X.out _))|(go_at_call 174;with_reducible refine Calls.b5 (Z.out _ _ (aj.a5 _) (by first|exact W.out|exact U.out)))))))
 refine wpQuiet_nil ?_
 rintro j ⟨⟨a3,am⟩,rfl⟩
 try dsimp only
 go_wp2_with fail
 go_ret
 exact⟨rfl,L.trans (((aa.refl _).alloc _).trans am)⟩

theorem Cg {F:Nat→Prop}{w:World}{q:Nat}{M:St}(h:ag F w q M)(A:M.n≤9):∀(n:Nat),n≤20→∀(e:Edge) (j:World),aa w j→e.ok →
  Calls Tryz.prog 174 #[.pointer (some ⟨q,0,none⟩),.agg #[.int .u8 e.tag,.int .u32 e.to],.int .i64 ((n:Int)-1)] j fun r w'=>r=.returned (.string (ay 4 M n e))∧aa j w':=by
 intro n
 induction n with
 |zero=>intro _ e j _ _;exact Ch q e j
 |succ n I=>
  intro s e j t z;have s:((n+1:Nat):Int)-1=(n:Int):=by omega
  rw[s];by_cases s:e.to<2
  ·have E:ay 4 M (n+1) e=aB e.to:=by
    show(if(4:Int)=5 then _ else if e.to<2 then _ else _)=_;rw[if_neg (by decide),if_pos s]
   rw[E];exact Ci q e _ j (by omega) z s
  ·exact Cj (h.U t) A e _ n (by omega) (by omega) (by omega) z s (fun q j s z=>I (by omega) q j (t.trans s) z)

theorem Cq (j:Nat)(e:Edge)(w:World):Calls Tryz.prog 175 #[.pointer (some ⟨j,0,none⟩),.agg #[.int .u8 e.tag,.int .u32 e.to],.int .i64 (-1)] w fun r w'=>r=.returned (.string ⟨#[63]⟩)∧aa w w':=by
 go_enter Tryz.func175,Tryz.ntmps175
 go_wp2
 go_ret
 exact⟨rfl,by(exact kp)⟩

theorem Ct (j:Nat)(q d:Int)(w:World)(s:0≤d):Calls Tryz.prog 175 #[.pointer (some ⟨j,0,none⟩),.agg #[.int .u8 q,.int .u32 0],.int .i64 d] w fun r w'=>r=.returned (.string ⟨#[48]⟩)∧aa w w':=by
 go_enter Tryz.func175,Tryz.ntmps175
 go_wp2
 go_ret
 exact⟨rfl,by(exact kp)⟩

theorem Cs (s:Nat)(j d:Int)(w:World)(A:0≤d)(t:0≤j)(z:j<10):Calls Tryz.prog 175 #[.pointer (some ⟨s,0,none⟩),.agg #[.int .u8 j,.int .u32 1],.int .i64 d] w fun r w'=>r=.returned (.string (aB j++⟨#[64]⟩++⟨#[49]⟩))∧aa w w':=by
 have q:=Lib.hid (fun s=>oe j s t z);have s:=bK j;go_enter Tryz.func175,Tryz.ntmps175
 go_wp2_with (first|(go_at_call 215;refine(q.out _).mono ?_;rintro j w1 ⟨rfl,j⟩)|fail)
 go_ret
 exact⟨rfl,by(exact kp)⟩

theorem Cr {F:Nat→Prop}{w:World}{L:Nat}{M:St}(h:ag F w L M)(aw:M.n≤9)(e:Edge)(d:Int)(n:Nat)(a3:0≤d)(a4:d≤100)(S:n≤20)(z:e.ok)(a5:¬e.to<2)(a1:e.tag<10)
  (J:(an (look M.cs e.to)).lo.tag<10∧(an (look M.cs e.to)).hi.tag<10)
  (U:∀(s:Edge) (q:World),aa w q→s.ok→s.tag<10→Calls Tryz.prog 175 #[.pointer (some ⟨L,0,none⟩),.agg #[.int .u8 s.tag,.int .u32 s.to],.int .i64 (d-1)] q fun r w'=>r=.returned (.string (ay 5 M n s))∧aa q w') :
  Calls Tryz.prog 175 #[.pointer (some ⟨L,0,none⟩),.agg #[.int .u8 e.tag,.int .u32 e.to],.int .i64 d] w fun r w'=>r=.returned (.string (ay 5 M (n+1) e))∧aa w w':=by
 have K:ay 5 M (n+1) e=(let r:=an (look M.cs e.to);aB e.tag++⟨#[64]⟩++⟨#[40]⟩++aB r.I++⟨#[32]⟩++ay 5 M n r.lo++⟨#[32]⟩++ay 5 M n r.hi++⟨#[41]⟩):=by
  show(if(5:Int)=5 then(if e.to=0 then _ else if e.to=1 then _ else _)else _)=_;rw[if_pos (by decide),if_neg (by omega),if_neg (by omega)]
 rw[K]
 have I:=fun(q:World) (E:aa w q)=>ef (h.U E) e.to z.2.2
 have A:=jy h.wf aw e.to
 have t:=h.ev e.to
 obtain⟨r,T⟩:∃r,r=an (look M.cs e.to):=⟨_,rfl⟩
 obtain⟨b,N⟩:∃b,b=eZ (look M.cs e.to):=⟨_,rfl⟩
 simp only[←T,←N]at I A t J ⊢
 have L:¬e.to=0:=by omega
 have L:¬e.to=1:=by omega
 have ab:=Lib.hid (fun q=>oe e.tag q z.1.1 a1)
 have L:0≤e.tag:=z.1.1
 have L:e.tag≤255:=z.1.2
 have L:0≤r.I:=t.I.1
 have z:r.I≤255:=t.I.2
 have z:0≤r.J:=t.J.1
 have aw:r.J≤255:=t.J.2
 have W:=Lib.hid I
 have Z:=Lib.hid (fun q=>cU r.I q L A.1)
 have L:=Lib.hid (fun q=>cU r.J q z A.2)
 have Y:=Lib.hid (And.intro t.lo J.1)
 have X:=Lib.hid (And.intro t.hi J.2)
 have am:=Lib.hid U
 have z:=Lib.hid K
 clear h I U A t T N K
 go_enter Tryz.func175,Tryz.ntmps175
 go_wp2_with (first|(go_at_call 78;refine(W.out _ (by(exact kp))).mono ?_;rintro t j ⟨rfl,t⟩;have O:aa w j:=(by(exact kp));have a2:=t.cell (a:=⟨w.heap.size,0,none⟩) (v:=.int .u8 e.tag) (by simp[go_sem]))|fail)
 have kE:=aj.cell (W0:=j.alloc (.cells #[.int .u8 r.ad,.int .u8 r.I,.int .u8 r.J,.int .u8 r.lo.tag,.int .u32 r.lo.to,.int .u8 r.hi.tag,.int .u32 r.hi.to] 134)) (a:=⟨w.heap.size,0,none⟩) (v:=.int .u8 e.tag) (((aa.refl _).alloc _).cell a2)
 have t:=aj.cell (W0:=j.alloc (.cells #[.int .u8 r.ad,.int .u8 r.I,.int .u8 r.J,.int .u8 r.lo.tag,.int .u32 r.lo.to,.int .u8 r.hi.tag,.int .u32 r.hi.to] 134)) (a:=⟨j.heap.size,1,none⟩) (v:=.int .u8 r.I) (by simp)
 have t:=aj.cell (W0:=j.alloc (.cells #[.int .u8 r.ad,.int .u8 r.I,.int .u8 r.J,.int .u8 r.lo.tag,.int .u32 r.lo.to,.int .u8 r.hi.tag,.int .u32 r.hi.to] 134)) (a:=⟨j.heap.size,2,none⟩) (v:=.int .u8 r.J) (by simp)
 have t:=aj.cell (W0:=j.alloc (.cells #[.int .u8 r.ad,.int .u8 r.I,.int .u8 r.J,.int .u8 r.lo.tag,.int .u32 r.lo.to,.int .u8 r.hi.tag,.int .u32 r.hi.to] 134)) (a:=⟨j.heap.size,3,none⟩) (v:=.int .u8 r.lo.tag) (by simp)
 have t:=aj.cell (W0:=j.alloc (.cells #[.int .u8 r.ad,.int .u8 r.I,.int .u8 r.J,.int .u8 r.lo.tag,.int .u32 r.lo.to,.int .u8 r.hi.tag,.int .u32 r.hi.to] 134)) (a:=⟨j.heap.size,4,none⟩) (v:=.int .u32 r.lo.to) (by simp)
 have t:=aj.cell (W0:=j.alloc (.cells #[.int .u8 r.ad,.int .u8 r.I,.int .u8 r.J,.int .u8 r.lo.tag,.int .u32 r.lo.to,.int .u8 r.hi.tag,.int .u32 r.hi.to] 134)) (a:=⟨j.heap.size,5,none⟩) (v:=.int .u8 r.hi.tag) (by simp)
 have t:=aj.cell (W0:=j.alloc (.cells #[.int .u8 r.ad,.int .u8 r.I,.int .u8 r.J,.int .u8 r.lo.tag,.int .u32 r.lo.to,.int .u8 r.hi.tag,.int .u32 r.hi.to] 134)) (a:=⟨j.heap.size,6,none⟩) (v:=.int .u32 r.hi.to) (by simp)
 have ad:=Lib.hid (fun(s:Edge) (q:World) (E:aa (j.alloc (.cells #[.int .u8 r.ad,.int .u8 r.I,.int .u8 r.J,.int .u8 r.lo.tag,.int .u32 r.lo.to,.int .u8 r.hi.tag,.int .u32 r.hi.to] 134)) q)=>fun(t:s.ok∧s.tag<10)=>am.out s q (O.trans (((aa.refl _).alloc _).trans E)) t.1 t.2)
 have q:=bK e.tag
 have q:=bK r.I
 have q:=bK r.J
 have q:=fX 5 M S r.lo
 have q:=fX 5 M S r.hi
 have q:IntKind.i64.wrap (d-1)=d-1:=IntWalk.i64_in _ (by omega)
 refine dT (j.alloc (.cells #[.int .u8 r.ad,.int .u8 r.I,.int .u8 r.J,.int .u8 r.lo.tag,.int .u32 r.lo.to,.int .u8 r.hi.tag,.int .u32 r.hi.to] 134)) (by kernel_rfl) (by kernel_rfl) (aa.refl _) ?_
 (repeat (go_big_quiet_step ((first|(go_at_call 215;with_reducible refine Calls.b5 (ab.out _))|(go_at_call 214;with_reducible refine Calls.b5 (Z.out _))|(go_at_call 175;with_reducible refine Calls.b5 (ad.out _ _ (aj.a5 _) (by first|exact Y.out|exact X.out)))))))
 refine wpQuiet_nil ?_
 rintro j ⟨⟨a6,av⟩,rfl⟩
 try dsimp only
 go_wp2_with fail
 go_ret
 exact⟨rfl,O.trans (((aa.refl _).alloc _).trans av)⟩

theorem mE {M:St}{f:Int}{e:Edge}{l:Int}(h:M.leads f e l=true)(j:M.n≤9):e.tag<10:=by
 obtain⟨s,t,z,A,E,I,j,q⟩:=bm.1 (gQ h).1;by_cases c:f≠5∨e.to=0;·have:=j c;omega
 ·have:=q (by omega) (by omega);omega

theorem vM {M:St}(h:M.wf)(q:M.n≤9)(id:Int):(an (look M.cs id)).lo.tag<10∧(an (look M.cs id)).hi.tag<10:=by
 cases j:look M.cs id with
 |none=>exact⟨by decide,by decide⟩
 |some r=>exact⟨mE (h.b8 j).lo q,mE (h.b8 j).hi q⟩

theorem Cp {F:Nat→Prop}{w:World}{q:Nat}{M:St}(h:ag F w q M)(I:M.n≤9):∀(n:Nat),n≤20→∀(e:Edge) (j:World),aa w j→e.ok→e.tag<10 →
  Calls Tryz.prog 175 #[.pointer (some ⟨q,0,none⟩),.agg #[.int .u8 e.tag,.int .u32 e.to],.int .i64 ((n:Int)-1)] j fun r w'=>r=.returned (.string (ay 5 M n e))∧aa j w':=by
 intro n
 induction n with
 |zero=>intro _ e j _ _ _;exact Cq q e j
 |succ n K=>
  intro s e j E t J;have s:((n+1:Nat):Int)-1=(n:Int):=by omega
  rw[s];by_cases s:e.to=0
  ·have z:ay 5 M (n+1) e=⟨#[48]⟩:=by
    show(if(5:Int)=5 then(if e.to=0 then _ else _)else _)=_;rw[if_pos (by decide),if_pos s]
   rw[z,s];exact Ct q e.tag _ j (by omega)
  ·by_cases A:e.to=1
   ·have z:ay 5 M (n+1) e=aB e.tag++⟨#[64]⟩++⟨#[49]⟩:=by
     show(if(5:Int)=5 then(if e.to=0 then _ else if e.to=1 then _ else _)else _)=_;rw[if_pos (by decide),if_neg s,if_pos A]
    rw[z,A];exact Cs q e.tag _ j (by omega) t.1.1 J
   ·exact Cr (h.U E) I e _ n (by omega) (by omega) (by omega) t (by have:=t.2.1;omega) J (vM h.wf I e.to) (fun q j s t z=>K (by omega) q j (E.trans s) t z)

theorem ue {F:Nat→Prop}{w:World}{W:Nat}{M:St}(h:ag F w W M)(v:Edge)(l:Int)(a8:v.ok) :
  Calls Tryz.prog 151 #[.pointer (some ⟨W,0,none⟩),.agg #[.int .u8 v.tag,.int .u32 v.to],.int .i64 l] w fun r w'=>r=.returned (.bool (bf M 3 v l))∧aa w w':=by
 have b9:=Lib.hid h.wf
 have b1:=Lib.hid (fun(id:Int) (r:Rec) (b2:look M.cs id=some r)=>h.b1 b2)
 have b2:=h.wf.bw
 have b2:=h.bx
 have b5:=nh h.wf h.bx [v.to]
 have am:=Lib.hid (fun(s:World) (t:aa w s) (id:Int) (hid:id≤4294967295)=>ef (h.U t) id hid)
 have S:=fun(s:World) (t:aa w s)=>cX (h.U t) 3 v l a8
 have b0:=Lib.hid (fun(s:World) (t:aa w s) (b:Nat) (cap:Nat) (b2:fO s (some ⟨b,0,none⟩) 1 [v])=>ld (h.U t) (some ⟨b,0,none⟩) 1 cap [v] b2 (by omega))
 clear h
 rcases cL (M.leads 3 v l)with J|J
 ·rw[J]at S;have aw:=Lib.hid S;have bx:=Lib.hid (nD J);clear S J;go_enter Tryz.func151,Tryz.ntmps151
  go_wp2_with (first|(go_at_call 134;refine(aw.out _ (by(exact kp))).mono ?_;rintro e w1 ⟨rfl,K⟩)|fail)
  go_ret
  exact⟨by rw[bx.out];rfl,by(exact kp)⟩
 ·rw[J]at S;have aw:=Lib.hid S;have bt:=Lib.hid J;clear S J;go_enter Tryz.func151,Tryz.ntmps151
  go_wp2_with (first|(go_at_call 134;refine(aw.out _ (by(exact kp))).mono ?_;rintro e w1 ⟨rfl,K⟩;have ce:w1.cell? ⟨w.heap.size,0,none⟩=some (.int .u8 v.tag):=K.cell (by simp);have cf:w1.cell? ⟨w.heap.size,1,none⟩=some (.int .u32 v.to):=K.cell (by simp);have b3:aa w w1:=(by(exact kp)))|fail)
  refine(b0.out _ (by(exact kp)) _ _ (mA a8 (by simp[go_sem]) (by simp[go_sem]))).mono ?_;rintro e bn ⟨cd,rfl,a6,b4⟩;obtain⟨ids,Z⟩:∃ids,ids=aQ M.cs [v.to]:=⟨_,rfl⟩;have a6:iF bn cd ids:=by rw[Z];exact a6
  rw[←Z]at b5;obtain⟨a,cap,rfl,J⟩:=a6;have Y:=Lib.hid Z;have bv:=Lib.hid J;have av:=Lib.hid (show aa w bn by(exact kp));clear Z J b4 K b3 ce cf a8;go_wp2_with fail
  go_loopg [23] ids.length (fun gk J wr=>∃d:Nat,d+gk=ids.length∧J=.int .i64 (d:Int)∧aa bn wr∧∀(i:Nat) (id:Int),i<d→ids[i]?=some id→aV M 3 (an (look M.cs id))=false)
  case atStart=>exact⟨0,by omega,rfl,aa.refl _,fun i id hi=>absurd hi (by omega)⟩
  case round=>
   obtain⟨d,cg,rfl,K,J⟩:=hrel;have I:=Lib.hid K;have bq:=Lib.hid J;clear K J;by_cases b6:d<ids.length
   ·obtain⟨id,hid⟩:∃id,ids[d]?=some id:=⟨_,List.getElem?_eq_getElem b6⟩;obtain⟨g,rfl,br⟩:=bv.out d id hid;have J:=I.out.cell br;have bp:=Lib.hid hid;obtain⟨x,N,a2,J,K⟩:=ni b9.out (d:=d) (id:=id) (es:=[v.to]) (by rw[←Y.out];exact hid);have J:=a2.tb;have J:=a2.bn;have ad:=b1.out id x N;have tok:0≤x.I:=ad.I.1;have J:0≤x.J:=ad.J.1;have bs:=ad.lo.2.2;have J:=Lib.hid N;have ab:aa w wr:=av.out.trans I.out
    have a5:Hid (aV M 3 (an (look M.cs id))=false→∀(i:Nat) (J:Int),i<d+1→ids[i]?=some J→aV M 3 (an (look M.cs J))=false):=Lib.hid (fun a4 i J hi U=>by
     by_cases hid:i<d;·exact bq.out i J hid U
     ·obtain rfl:i=d:=(by omega);rw[bp.out]at U;cases U
      exact a4)
    have b8:Hid (aV M 3 (an (look M.cs id))=true→bf M 3 v l=false):=Lib.hid (fun a4=>ny (d:=d) (id:=id) (by rw[←Y.out];exact bp.out) a4);clear hid br ad
    have X:Hid (∀s,aa w s→Calls Tryz.prog 78 #[.pointer (some ⟨W,0,none⟩),.int .u32 id] s fun e w'=>e=.returned (.tuple #[.agg #[.int .u8 x.ad,.int .u8 x.I,.int .u8 x.J,.int .u8 x.lo.tag,.int .u32 x.lo.to,.int .u8 x.hi.tag,.int .u32 x.hi.to],.bool true])∧aa s w'):=
     Lib.hid (fun s t=>by have:=am.out s t id (by omega);rw[N]at this;exact this)
    have ca:Hid (look M.cs x.lo.to=none→aV M 3 (an (look M.cs id))=false):=Lib.hid (fun A=>by rw[N];show(match look M.cs x.lo.to with|none=>false|some J=>_)=false;rw[A]);have cb:Hid (∀y,look M.cs x.lo.to=some y→aV M 3 (an (look M.cs id))=(decide (y.I=x.J+1)&&decide (y.hi=x.hi))):=Lib.hid (fun y A=>by rw[N];show(match look M.cs x.lo.to with|none=>false|some J=>_)=_;rw[A];rfl);clear a2;cases A:look M.cs x.lo.to with
    |none=>
     have T:Hid (∀s,aa w s→Calls Tryz.prog 78 #[.pointer (some ⟨W,0,none⟩),.int .u32 x.lo.to] s fun e w'=>e=.returned (.tuple #[.agg #[.int .u8 Rec.zero.ad,.int .u8 Rec.zero.I,.int .u8 Rec.zero.J,.int .u8 Rec.zero.lo.tag,.int .u32 Rec.zero.lo.to,.int .u8 Rec.zero.hi.tag,.int .u32 Rec.zero.hi.to],.bool false])∧aa s w'):=
      Lib.hid (fun s t=>by have:=am.out s t x.lo.to bs;rw[A]at this;exact this)
     have z:=Lib.hid (ca.out A);clear N A
     (go_wp2_with fail
      refine(X.out _ ab).mono ?_
      rintro e q ⟨rfl,a3⟩
      go_wp2_with fail
      refine(T.out _ (by(exact kp))).mono ?_
      rintro e O ⟨rfl,j⟩
      have a':=j.cell (a:=⟨q.heap.size,2,none⟩) (v:=.int .u8 x.J) (by simp[go_sem])
      have bb:=j.cell (a:=⟨q.heap.size,3,none⟩) (v:=.int .u8 x.lo.tag) (by simp[go_sem])
      have be:=j.cell (a:=⟨q.heap.size,4,none⟩) (v:=.int .u32 x.lo.to) (by simp[go_sem])
      have bg:=j.cell (a:=⟨q.heap.size,5,none⟩) (v:=.int .u8 x.hi.tag) (by simp[go_sem])
      have bi:=j.cell (a:=⟨q.heap.size,6,none⟩) (v:=.int .u32 x.hi.to) (by simp[go_sem])
      have L:=j.size
      simp only[World.size_alloc]at L
      have a7:q.heap.size<O.heap.size:=by omega
      go_wp2_with fail)
     go_roundg (gk-1)
     case rel=>exact⟨d+1,by omega,by simp,by have:=I.out;(exact kp),a5.out (by exact z.out)⟩
     case measure=>omega
    |some y=>
     have T:Hid (∀s,aa w s→Calls Tryz.prog 78 #[.pointer (some ⟨W,0,none⟩),.int .u32 x.lo.to] s fun e w'=>e=.returned (.tuple #[.agg #[.int .u8 y.ad,.int .u8 y.I,.int .u8 y.J,.int .u8 y.lo.tag,.int .u32 y.lo.to,.int .u8 y.hi.tag,.int .u32 y.hi.to],.bool true])∧aa s w'):=
      Lib.hid (fun s t=>by have:=am.out s t x.lo.to bs;rw[A]at this;exact this)
     have z:=Lib.hid (cb.out y A);clear N A;by_cases a1:y.I=x.J+1
     ·by_cases E:y.hi=x.hi
      ·have b7:=gM y.hi x.hi E;have z:Hid (aV M 3 (an (look M.cs id))=true):=Lib.hid (by rw[z.out];simp[a1,E]);have bw:=Lib.hid E;clear E
       (go_wp2_with fail
        refine(X.out _ ab).mono ?_
        rintro e q ⟨rfl,a3⟩
        go_wp2_with fail
        refine(T.out _ (by(exact kp))).mono ?_
        rintro e O ⟨rfl,j⟩
        have a':=j.cell (a:=⟨q.heap.size,2,none⟩) (v:=.int .u8 x.J) (by simp[go_sem])
        have bb:=j.cell (a:=⟨q.heap.size,3,none⟩) (v:=.int .u8 x.lo.tag) (by simp[go_sem])
        have be:=j.cell (a:=⟨q.heap.size,4,none⟩) (v:=.int .u32 x.lo.to) (by simp[go_sem])
        have bg:=j.cell (a:=⟨q.heap.size,5,none⟩) (v:=.int .u8 x.hi.tag) (by simp[go_sem])
        have bi:=j.cell (a:=⟨q.heap.size,6,none⟩) (v:=.int .u32 x.hi.to) (by simp[go_sem])
        have L:=j.size
        simp only[World.size_alloc]at L
        have a7:q.heap.size<O.heap.size:=by omega
        go_wp2_with fail)
       go_ret
       exact⟨by rw[b8.out (by exact z.out)];rfl,by have:=av.out;have:=I.out;(exact kp)⟩
      ·have b7:=fR y.hi x.hi E;have z:Hid (aV M 3 (an (look M.cs id))=false):=Lib.hid (by rw[z.out];simp[a1,E]);have bw:=Lib.hid E;clear E
       (go_wp2_with fail
        refine(X.out _ ab).mono ?_
        rintro e q ⟨rfl,a3⟩
        go_wp2_with fail
        refine(T.out _ (by(exact kp))).mono ?_
        rintro e O ⟨rfl,j⟩
        have a':=j.cell (a:=⟨q.heap.size,2,none⟩) (v:=.int .u8 x.J) (by simp[go_sem])
        have bb:=j.cell (a:=⟨q.heap.size,3,none⟩) (v:=.int .u8 x.lo.tag) (by simp[go_sem])
        have be:=j.cell (a:=⟨q.heap.size,4,none⟩) (v:=.int .u32 x.lo.to) (by simp[go_sem])
        have bg:=j.cell (a:=⟨q.heap.size,5,none⟩) (v:=.int .u8 x.hi.tag) (by simp[go_sem])
        have bi:=j.cell (a:=⟨q.heap.size,6,none⟩) (v:=.int .u32 x.hi.to) (by simp[go_sem])
        have L:=j.size
        simp only[World.size_alloc]at L
        have a7:q.heap.size<O.heap.size:=by omega
        go_wp2_with fail)
       go_roundg (gk-1)
       case rel=>exact⟨d+1,by omega,by simp,by have:=I.out;(exact kp),a5.out (by exact z.out)⟩
       case measure=>omega
     ·have z:Hid (aV M 3 (an (look M.cs id))=false):=Lib.hid (by rw[z.out];simp[a1])
      (go_wp2_with fail
       refine(X.out _ ab).mono ?_
       rintro e q ⟨rfl,a3⟩
       go_wp2_with fail
       refine(T.out _ (by(exact kp))).mono ?_
       rintro e O ⟨rfl,j⟩
       have a':=j.cell (a:=⟨q.heap.size,2,none⟩) (v:=.int .u8 x.J) (by simp[go_sem])
       have bb:=j.cell (a:=⟨q.heap.size,3,none⟩) (v:=.int .u8 x.lo.tag) (by simp[go_sem])
       have be:=j.cell (a:=⟨q.heap.size,4,none⟩) (v:=.int .u32 x.lo.to) (by simp[go_sem])
       have bg:=j.cell (a:=⟨q.heap.size,5,none⟩) (v:=.int .u8 x.hi.tag) (by simp[go_sem])
       have bi:=j.cell (a:=⟨q.heap.size,6,none⟩) (v:=.int .u32 x.hi.to) (by simp[go_sem])
       have L:=j.size
       simp only[World.size_alloc]at L
       have a7:q.heap.size<O.heap.size:=by omega
       go_wp2_with fail)
      go_roundg (gk-1)
      case rel=>exact⟨d+1,by omega,by simp,by have:=I.out;(exact kp),a5.out (by exact z.out)⟩
      case measure=>omega
   ·go_wp2
    go_ret
    have j:d=ids.length:=(by omega);refine⟨by rw[nz bt.out (fun i id hi U=>bq.out i id (by rw[←Y.out]at hi;omega) (by rw[Y.out];exact U))];rfl,av.out.trans I.out⟩

theorem uQ {F:Nat→Prop}{w:World}{Y:Nat}{M:St}(h:ag F w Y M)(v:Edge)(l:Int)(bp:v.ok) :
  Calls Tryz.prog 152 #[.pointer (some ⟨Y,0,none⟩),.agg #[.int .u8 v.tag,.int .u32 v.to],.int .i64 l] w fun r w'=>r=.returned (.bool (bf M 4 v l))∧aa w w':=by
 have b9:=Lib.hid h.wf
 have b2:=Lib.hid (fun(id:Int) (r:Rec) (b3:look M.cs id=some r)=>h.b1 b3)
 have b3:=h.wf.bw
 have b3:=h.bx
 have b6:=nh h.wf h.bx [v.to]
 have a7:=Lib.hid (fun(s:World) (A:aa w s) (id:Int) (hid:id≤4294967295)=>ef (h.U A) id hid)
 have T:=fun(s:World) (A:aa w s)=>cX (h.U A) 4 v l bp
 have b1:=Lib.hid (fun(s:World) (A:aa w s) (b:Nat) (cap:Nat) (b3:fO s (some ⟨b,0,none⟩) 1 [v])=>ld (h.U A) (some ⟨b,0,none⟩) 1 cap [v] b3 (by omega))
 clear h
 rcases cL (M.leads 4 v l)with L|L
 ·rw[L]at T;have a':=Lib.hid T;have b0:=Lib.hid (nD L);clear T L;go_enter Tryz.func152,Tryz.ntmps152
  go_wp2_with (first|(go_at_call 134;refine(a'.out _ (by(exact kp))).mono ?_;rintro e w1 ⟨rfl,N⟩)|fail)
  go_ret
  exact⟨by rw[b0.out];rfl,by(exact kp)⟩
 ·rw[L]at T;have a':=Lib.hid T;have bw:=Lib.hid L;clear T L;go_enter Tryz.func152,Tryz.ntmps152
  go_wp2_with (first|(go_at_call 134;refine(a'.out _ (by(exact kp))).mono ?_;rintro e w1 ⟨rfl,N⟩;have ce:w1.cell? ⟨w.heap.size,0,none⟩=some (.int .u8 v.tag):=N.cell (by simp);have cf:w1.cell? ⟨w.heap.size,1,none⟩=some (.int .u32 v.to):=N.cell (by simp);have b4:aa w w1:=(by(exact kp)))|fail)
  refine(b1.out _ (by(exact kp)) _ _ (mA bp (by simp[go_sem]) (by simp[go_sem]))).mono ?_;rintro e bq ⟨cd,rfl,bn,b5⟩;obtain⟨ids,ad⟩:∃ids,ids=aQ M.cs [v.to]:=⟨_,rfl⟩;have bn:iF bq cd ids:=by rw[ad];exact bn
  rw[←ad]at b6;obtain⟨a,cap,rfl,L⟩:=bn;have Z:=Lib.hid ad;have bx:=Lib.hid L;have a8:=Lib.hid (show aa w bq by(exact kp));clear ad L b5 N b4 ce cf bp;go_wp2_with fail
  go_loopg [23] ids.length (fun gk L wr=>∃d:Nat,d+gk=ids.length∧L=.int .i64 (d:Int)∧aa bq wr∧∀(i:Nat) (id:Int),i<d→ids[i]?=some id→aV M 4 (an (look M.cs id))=false)
  case atStart=>exact⟨0,by omega,rfl,aa.refl _,fun i id hi=>absurd hi (by omega)⟩
  case round=>
   obtain⟨d,cg,rfl,N,L⟩:=hrel;have K:=Lib.hid N;have bs:=Lib.hid L;clear N L;by_cases b7:d<ids.length
   ·obtain⟨id,hid⟩:∃id,ids[d]?=some id:=⟨_,List.getElem?_eq_getElem b7⟩;obtain⟨g,rfl,bt⟩:=bx.out d id hid;have L:=K.out.cell bt;have br:=Lib.hid hid;obtain⟨x,O,be,L,N⟩:=ni b9.out (d:=d) (id:=id) (es:=[v.to]) (by rw[←Z.out];exact hid);have L:=be.tb;have L:=be.bn;have av:=b2.out id x O;have tok:0≤x.I:=av.I.1;have L:0≤x.J:=av.J.1;have bv:=av.lo.2.2;have L:=Lib.hid O;have X:aa w wr:=a8.out.trans K.out
    have am:Hid (aV M 4 (an (look M.cs id))=false→∀(i:Nat) (L:Int),i<d+1→ids[i]?=some L→aV M 4 (an (look M.cs L))=false):=Lib.hid (fun bg i L hi W=>by
     by_cases hid:i<d;·exact bs.out i L hid W
     ·obtain rfl:i=d:=(by omega);rw[br.out]at W;cases W
      exact bg)
    have b8:Hid (aV M 4 (an (look M.cs id))=true→bf M 4 v l=false):=Lib.hid (fun bg=>ny (d:=d) (id:=id) (by rw[←Z.out];exact br.out) bg);clear hid bt av
    have U:Hid (∀s,aa w s→Calls Tryz.prog 78 #[.pointer (some ⟨Y,0,none⟩),.int .u32 id] s fun e w'=>e=.returned (.tuple #[.agg #[.int .u8 x.ad,.int .u8 x.I,.int .u8 x.J,.int .u8 x.lo.tag,.int .u32 x.lo.to,.int .u8 x.hi.tag,.int .u32 x.hi.to],.bool true])∧aa s w'):=
     Lib.hid (fun s A=>by have:=a7.out s A id (by omega);rw[O]at this;exact this)
    have ca:Hid (look M.cs x.lo.to=none→aV M 4 (an (look M.cs id))=false):=Lib.hid (fun E=>by rw[O];show(match look M.cs x.lo.to with|none=>false|some L=>_)=false;rw[E]);have cb:Hid (∀y,look M.cs x.lo.to=some y→aV M 4 (an (look M.cs id))=(decide (y.I=x.J+1)&&decide (x.lo=x.hi))):=Lib.hid (fun y E=>by rw[O];show(match look M.cs x.lo.to with|none=>false|some L=>_)=_;rw[E];rfl);clear be;cases E:look M.cs x.lo.to with
    |none=>
     have S:Hid (∀s,aa w s→Calls Tryz.prog 78 #[.pointer (some ⟨Y,0,none⟩),.int .u32 x.lo.to] s fun e w'=>e=.returned (.tuple #[.agg #[.int .u8 Rec.zero.ad,.int .u8 Rec.zero.I,.int .u8 Rec.zero.J,.int .u8 Rec.zero.lo.tag,.int .u32 Rec.zero.lo.to,.int .u8 Rec.zero.hi.tag,.int .u32 Rec.zero.hi.to],.bool false])∧aa s w'):=
      Lib.hid (fun s A=>by have:=a7.out s A x.lo.to bv;rw[E]at this;exact this)
     have z:=Lib.hid (ca.out E);clear O E
     (go_wp2_with fail
      refine(U.out _ X).mono ?_
      rintro e q ⟨rfl,ab⟩
      go_wp2_with fail
      refine(S.out _ (by(exact kp))).mono ?_
      rintro e J ⟨rfl,j⟩
      have a1:=j.cell (a:=⟨q.heap.size,2,none⟩) (v:=.int .u8 x.J) (by simp[go_sem])
      have a2:=j.cell (a:=⟨q.heap.size,3,none⟩) (v:=.int .u8 x.lo.tag) (by simp[go_sem])
      have a3:=j.cell (a:=⟨q.heap.size,4,none⟩) (v:=.int .u32 x.lo.to) (by simp[go_sem])
      have a4:=j.cell (a:=⟨q.heap.size,5,none⟩) (v:=.int .u8 x.hi.tag) (by simp[go_sem])
      have a5:=j.cell (a:=⟨q.heap.size,6,none⟩) (v:=.int .u32 x.hi.to) (by simp[go_sem])
      have I:=j.size
      simp only[World.size_alloc]at I
      have aw:q.heap.size<J.heap.size:=by omega
      go_wp2_with fail)
     go_roundg (gk-1)
     case rel=>exact⟨d+1,by omega,by simp,by have:=K.out;(exact kp),am.out (by exact z.out)⟩
     case measure=>omega
    |some y=>
     have S:Hid (∀s,aa w s→Calls Tryz.prog 78 #[.pointer (some ⟨Y,0,none⟩),.int .u32 x.lo.to] s fun e w'=>e=.returned (.tuple #[.agg #[.int .u8 y.ad,.int .u8 y.I,.int .u8 y.J,.int .u8 y.lo.tag,.int .u32 y.lo.to,.int .u8 y.hi.tag,.int .u32 y.hi.to],.bool true])∧aa s w'):=
      Lib.hid (fun s A=>by have:=a7.out s A x.lo.to bv;rw[E]at this;exact this)
     have z:=Lib.hid (cb.out y E);clear O E;by_cases bb:y.I=x.J+1
     ·by_cases t:x.lo=x.hi
      ·have bi:=gM x.lo x.hi t;have z:Hid (aV M 4 (an (look M.cs id))=true):=Lib.hid (by rw[z.out];simp[bb,t]);have a6:=Lib.hid t;clear t
       (go_wp2_with fail
        refine(U.out _ X).mono ?_
        rintro e q ⟨rfl,ab⟩
        go_wp2_with fail
        refine(S.out _ (by(exact kp))).mono ?_
        rintro e J ⟨rfl,j⟩
        have a1:=j.cell (a:=⟨q.heap.size,2,none⟩) (v:=.int .u8 x.J) (by simp[go_sem])
        have a2:=j.cell (a:=⟨q.heap.size,3,none⟩) (v:=.int .u8 x.lo.tag) (by simp[go_sem])
        have a3:=j.cell (a:=⟨q.heap.size,4,none⟩) (v:=.int .u32 x.lo.to) (by simp[go_sem])
        have a4:=j.cell (a:=⟨q.heap.size,5,none⟩) (v:=.int .u8 x.hi.tag) (by simp[go_sem])
        have a5:=j.cell (a:=⟨q.heap.size,6,none⟩) (v:=.int .u32 x.hi.to) (by simp[go_sem])
        have I:=j.size
        simp only[World.size_alloc]at I
        have aw:q.heap.size<J.heap.size:=by omega
        go_wp2_with fail)
       go_ret
       exact⟨by rw[b8.out (by exact z.out)];rfl,by have:=a8.out;have:=K.out;(exact kp)⟩
      ·have bi:=fR x.lo x.hi t;have z:Hid (aV M 4 (an (look M.cs id))=false):=Lib.hid (by rw[z.out];simp[bb,t]);have a6:=Lib.hid t;clear t
       (go_wp2_with fail
        refine(U.out _ X).mono ?_
        rintro e q ⟨rfl,ab⟩
        go_wp2_with fail
        refine(S.out _ (by(exact kp))).mono ?_
        rintro e J ⟨rfl,j⟩
        have a1:=j.cell (a:=⟨q.heap.size,2,none⟩) (v:=.int .u8 x.J) (by simp[go_sem])
        have a2:=j.cell (a:=⟨q.heap.size,3,none⟩) (v:=.int .u8 x.lo.tag) (by simp[go_sem])
        have a3:=j.cell (a:=⟨q.heap.size,4,none⟩) (v:=.int .u32 x.lo.to) (by simp[go_sem])
        have a4:=j.cell (a:=⟨q.heap.size,5,none⟩) (v:=.int .u8 x.hi.tag) (by simp[go_sem])
        have a5:=j.cell (a:=⟨q.heap.size,6,none⟩) (v:=.int .u32 x.hi.to) (by simp[go_sem])
        have I:=j.size
        simp only[World.size_alloc]at I
        have aw:q.heap.size<J.heap.size:=by omega
        go_wp2_with fail)
       go_roundg (gk-1)
       case rel=>exact⟨d+1,by omega,by simp,by have:=K.out;(exact kp),am.out (by exact z.out)⟩
       case measure=>omega
     ·have z:Hid (aV M 4 (an (look M.cs id))=false):=Lib.hid (by rw[z.out];simp[bb]);by_cases t:x.lo=x.hi
      ·have bi:=gM x.lo x.hi t;have a6:=Lib.hid t;clear t
       (go_wp2_with fail
        refine(U.out _ X).mono ?_
        rintro e q ⟨rfl,ab⟩
        go_wp2_with fail
        refine(S.out _ (by(exact kp))).mono ?_
        rintro e J ⟨rfl,j⟩
        have a1:=j.cell (a:=⟨q.heap.size,2,none⟩) (v:=.int .u8 x.J) (by simp[go_sem])
        have a2:=j.cell (a:=⟨q.heap.size,3,none⟩) (v:=.int .u8 x.lo.tag) (by simp[go_sem])
        have a3:=j.cell (a:=⟨q.heap.size,4,none⟩) (v:=.int .u32 x.lo.to) (by simp[go_sem])
        have a4:=j.cell (a:=⟨q.heap.size,5,none⟩) (v:=.int .u8 x.hi.tag) (by simp[go_sem])
        have a5:=j.cell (a:=⟨q.heap.size,6,none⟩) (v:=.int .u32 x.hi.to) (by simp[go_sem])
        have I:=j.size
        simp only[World.size_alloc]at I
        have aw:q.heap.size<J.heap.size:=by omega
        go_wp2_with fail)
       go_roundg (gk-1)
       case rel=>exact⟨d+1,by omega,by simp,by have:=K.out;(exact kp),am.out (by exact z.out)⟩
       case measure=>omega
      ·have bi:=fR x.lo x.hi t;have a6:=Lib.hid t;clear t
       (go_wp2_with fail
        refine(U.out _ X).mono ?_
        rintro e q ⟨rfl,ab⟩
        go_wp2_with fail
        refine(S.out _ (by(exact kp))).mono ?_
        rintro e J ⟨rfl,j⟩
        have a1:=j.cell (a:=⟨q.heap.size,2,none⟩) (v:=.int .u8 x.J) (by simp[go_sem])
        have a2:=j.cell (a:=⟨q.heap.size,3,none⟩) (v:=.int .u8 x.lo.tag) (by simp[go_sem])
        have a3:=j.cell (a:=⟨q.heap.size,4,none⟩) (v:=.int .u32 x.lo.to) (by simp[go_sem])
        have a4:=j.cell (a:=⟨q.heap.size,5,none⟩) (v:=.int .u8 x.hi.tag) (by simp[go_sem])
        have a5:=j.cell (a:=⟨q.heap.size,6,none⟩) (v:=.int .u32 x.hi.to) (by simp[go_sem])
        have I:=j.size
        simp only[World.size_alloc]at I
        have aw:q.heap.size<J.heap.size:=by omega
        go_wp2_with fail)
       go_roundg (gk-1)
       case rel=>exact⟨d+1,by omega,by simp,by have:=K.out;(exact kp),am.out (by exact z.out)⟩
       case measure=>omega
   ·go_wp2
    go_ret
    have j:d=ids.length:=(by omega);refine⟨by rw[nz bw.out (fun i id hi W=>bs.out i id (by rw[←Z.out]at hi;omega) (by rw[Z.out];exact W))];rfl,a8.out.trans K.out⟩

end Go.Proofs.YtafkamlhimkbmaaGreat
