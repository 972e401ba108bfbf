/-
  Unfold of law12 over the state (printed by wip/mk_unfold.py).
-/
import Derived.Test.YtafkamlhimkbmaaGreatPUnfBase
namespace Go.Proofs.YtafkamlhimkbmaaGreat
set_option maxRecDepth 1000000
set_option maxHeartbeats 8000000
set_option linter.unusedSimpArgs false
set_option linter.unusedVariables false
open Go.RowKit

theorem BF (j:Nat)(e:Edge)(w:World):Calls Tryz.prog 171 #[.pointer (some ⟨j,0,none⟩),.agg #[.int .u8 e.tag,.int .u32 e.to],.int .i64 (-1)] w fun r q=>r=.returned (.string ⟨#[63]⟩)∧aa w q:=by
 go_enter Tryz.func171,Tryz.ntmps171
 go_wp2
 go_ret
 exact⟨rfl,by(exact kp)⟩

theorem BG (s:Nat)(e:Edge)(d:Int)(w:World)(z:0≤d)(q:e.ok)(A:e.to<2):Calls Tryz.prog 171 #[.pointer (some ⟨s,0,none⟩),.agg #[.int .u8 e.tag,.int .u32 e.to],.int .i64 d] w fun r t=>r=.returned (.string (ay e.to))∧aa w t:=by
 have s:0≤e.to:=q.2.1;have j:=Lib.hid (fun q=>cR e.to q s (by omega));go_enter Tryz.func171,Tryz.ntmps171
 go_wp2_with (first|(go_at_call 214;refine(j.out _).mono ?_;rintro j w1 ⟨rfl,j⟩)|fail)
 go_ret
 exact⟨rfl,by(exact kp)⟩

theorem BH {F:Nat→Prop}{w:World}{J:Nat}{M:St}(h:ag F w J M)(av:M.n≤9)(e:Edge)(d:Int)(n:Nat)(a1:0≤d)(a2:d≤100)(O:n≤20)(ad:e.ok)(aw:¬e.to<2)
  (T:∀(t:Edge) (q:World),aa w q→t.ok→Calls Tryz.prog 171 #[.pointer (some ⟨J,0,none⟩),.agg #[.int .u8 t.tag,.int .u32 t.to],.int .i64 (d-1)] q fun r K=>r=.returned (.string (ar 1 M n t))∧aa q K) :
  Calls Tryz.prog 171 #[.pointer (some ⟨J,0,none⟩),.agg #[.int .u8 e.tag,.int .u32 e.to],.int .i64 d] w fun r K=>r=.returned (.string (ar 1 M (n+1) e))∧aa w K:=by
 have I:ar 1 M (n+1) e=(let r:=al (look M.cs e.to);⟨#[40]⟩++ay r.I++⟨#[32]⟩++ar 1 M n r.lo++⟨#[32]⟩++ar 1 M n r.hi++⟨#[41]⟩):=by
  show(if(1:Int)=5 then _ else if e.to<2 then _ else _)=_;rw[if_neg (by decide),if_neg aw];rw[if_neg (by decide)]
 rw[I]
 have E:=fun(q:World) (A:aa w q)=>dU (h.U A) e.to ad.2.2
 have z:=jw h.wf av e.to
 have s:=h.ee e.to
 obtain⟨r,S⟩:∃r,r=al (look M.cs e.to):=⟨_,rfl⟩
 obtain⟨b,L⟩:∃b,b=eT (look M.cs e.to):=⟨_,rfl⟩
 simp only[←S,←L]at E z s ⊢
 have K:0≤r.I:=s.I.1
 have J:r.I≤255:=s.I.2
 have J:0≤r.J:=s.J.1
 have ad:r.J≤255:=s.J.2
 have U:=Lib.hid E
 have Y:=Lib.hid (fun q=>cR r.I q K z.1)
 have K:=Lib.hid (fun q=>cR r.J q J z.2)
 have X:=Lib.hid s.lo
 have W:=Lib.hid s.hi
 have ab:=Lib.hid T
 have J:=Lib.hid I
 clear h E T z s S L I
 go_enter Tryz.func171,Tryz.ntmps171
 go_wp2_with (first|(go_at_call 78;refine(U.out _ (by(exact kp))).mono ?_;rintro s j ⟨rfl,s⟩;have N:aa w j:=(by(exact kp)))|fail)
 have s:=ai.cell (W0:=j.alloc (.cells #[.int .u8 r.ad,.int .u8 r.I,.int .u8 r.J,.int .u8 r.lo.tag,.int .u32 r.lo.to,.int .u8 r.hi.tag,.int .u32 r.hi.to] 134)) (a:=⟨j.heap.size,1,none⟩) (v:=.int .u8 r.I) (by simp)
 have s:=ai.cell (W0:=j.alloc (.cells #[.int .u8 r.ad,.int .u8 r.I,.int .u8 r.J,.int .u8 r.lo.tag,.int .u32 r.lo.to,.int .u8 r.hi.tag,.int .u32 r.hi.to] 134)) (a:=⟨j.heap.size,2,none⟩) (v:=.int .u8 r.J) (by simp)
 have s:=ai.cell (W0:=j.alloc (.cells #[.int .u8 r.ad,.int .u8 r.I,.int .u8 r.J,.int .u8 r.lo.tag,.int .u32 r.lo.to,.int .u8 r.hi.tag,.int .u32 r.hi.to] 134)) (a:=⟨j.heap.size,3,none⟩) (v:=.int .u8 r.lo.tag) (by simp)
 have s:=ai.cell (W0:=j.alloc (.cells #[.int .u8 r.ad,.int .u8 r.I,.int .u8 r.J,.int .u8 r.lo.tag,.int .u32 r.lo.to,.int .u8 r.hi.tag,.int .u32 r.hi.to] 134)) (a:=⟨j.heap.size,4,none⟩) (v:=.int .u32 r.lo.to) (by simp)
 have s:=ai.cell (W0:=j.alloc (.cells #[.int .u8 r.ad,.int .u8 r.I,.int .u8 r.J,.int .u8 r.lo.tag,.int .u32 r.lo.to,.int .u8 r.hi.tag,.int .u32 r.hi.to] 134)) (a:=⟨j.heap.size,5,none⟩) (v:=.int .u8 r.hi.tag) (by simp)
 have s:=ai.cell (W0:=j.alloc (.cells #[.int .u8 r.ad,.int .u8 r.I,.int .u8 r.J,.int .u8 r.lo.tag,.int .u32 r.lo.to,.int .u8 r.hi.tag,.int .u32 r.hi.to] 134)) (a:=⟨j.heap.size,6,none⟩) (v:=.int .u32 r.hi.to) (by simp)
 have Z:=Lib.hid (fun(t:Edge) (q:World) (A:aa (j.alloc (.cells #[.int .u8 r.ad,.int .u8 r.I,.int .u8 r.J,.int .u8 r.lo.tag,.int .u32 r.lo.to,.int .u8 r.hi.tag,.int .u32 r.hi.to] 134)) q)=>ab.out t q (N.trans (((aa.refl _).alloc _).trans A)))
 have q:=bH r.I
 have q:=bH r.J
 have q:=fP 1 M O r.lo
 have q:=fP 1 M O r.hi
 have q:IntKind.i64.wrap (d-1)=d-1:=IntWalk.i64_in _ (by omega)
 refine dO (j.alloc (.cells #[.int .u8 r.ad,.int .u8 r.I,.int .u8 r.J,.int .u8 r.lo.tag,.int .u32 r.lo.to,.int .u8 r.hi.tag,.int .u32 r.hi.to] 134)) (by kernel_rfl) (by kernel_rfl) (aa.refl _) ?_
 (repeat (go_big_quiet_step ((first|(go_at_call 214;with_reducible refine Calls.b4 (Y.out _))|(go_at_call 171;with_reducible refine Calls.b4 (Z.out _ _ (ai.a4 _) (by first|exact X.out|exact W.out)))))))
 refine wpQuiet_nil ?_
 rintro j ⟨⟨a3,am⟩,rfl⟩
 try dsimp only
 go_wp2_with fail
 go_ret
 exact⟨rfl,N.trans (((aa.refl _).alloc _).trans am)⟩

theorem BE {F:Nat→Prop}{w:World}{q:Nat}{M:St}(h:ag F w q M)(A:M.n≤9):∀(n:Nat),n≤20→∀(e:Edge) (j:World),aa w j→e.ok →
  Calls Tryz.prog 171 #[.pointer (some ⟨q,0,none⟩),.agg #[.int .u8 e.tag,.int .u32 e.to],.int .i64 ((n:Int)-1)] j fun r s=>r=.returned (.string (ar 1 M n e))∧aa j s:=by
 intro n
 induction n with
 |zero=>intro _ e j _ _;exact BF q e j
 |succ n I=>
  intro s e j t z;have s:((n+1:Nat):Int)-1=(n:Int):=by omega
  rw[s];by_cases s:e.to<2
  ·have E:ar 1 M (n+1) e=ay e.to:=by
    show(if(1:Int)=5 then _ else if e.to<2 then _ else _)=_;rw[if_neg (by decide),if_pos s]
   rw[E];exact BG q e _ j (by omega) z s
  ·exact BH (h.U t) A e _ n (by omega) (by omega) (by omega) z s (fun q j s z=>I (by omega) q j (t.trans s) z)

theorem B5 (j:Nat)(e:Edge)(w:World):Calls Tryz.prog 172 #[.pointer (some ⟨j,0,none⟩),.agg #[.int .u8 e.tag,.int .u32 e.to],.int .i64 (-1)] w fun r q=>r=.returned (.string ⟨#[63]⟩)∧aa w q:=by
 go_enter Tryz.func172,Tryz.ntmps172
 go_wp2
 go_ret
 exact⟨rfl,by(exact kp)⟩

theorem B6 (s:Nat)(e:Edge)(d:Int)(w:World)(z:0≤d)(q:e.ok)(A:e.to<2):Calls Tryz.prog 172 #[.pointer (some ⟨s,0,none⟩),.agg #[.int .u8 e.tag,.int .u32 e.to],.int .i64 d] w fun r t=>r=.returned (.string (ay e.to))∧aa w t:=by
 have s:0≤e.to:=q.2.1;have j:=Lib.hid (fun q=>cR e.to q s (by omega));go_enter Tryz.func172,Tryz.ntmps172
 go_wp2_with (first|(go_at_call 214;refine(j.out _).mono ?_;rintro j w1 ⟨rfl,j⟩)|fail)
 go_ret
 exact⟨rfl,by(exact kp)⟩

theorem B7 {F:Nat→Prop}{w:World}{J:Nat}{M:St}(h:ag F w J M)(av:M.n≤9)(e:Edge)(d:Int)(n:Nat)(a1:0≤d)(a2:d≤100)(O:n≤20)(ad:e.ok)(aw:¬e.to<2)
  (T:∀(t:Edge) (q:World),aa w q→t.ok→Calls Tryz.prog 172 #[.pointer (some ⟨J,0,none⟩),.agg #[.int .u8 t.tag,.int .u32 t.to],.int .i64 (d-1)] q fun r K=>r=.returned (.string (ar 2 M n t))∧aa q K) :
  Calls Tryz.prog 172 #[.pointer (some ⟨J,0,none⟩),.agg #[.int .u8 e.tag,.int .u32 e.to],.int .i64 d] w fun r K=>r=.returned (.string (ar 2 M (n+1) e))∧aa w K:=by
 have I:ar 2 M (n+1) e=(let r:=al (look M.cs e.to);⟨#[40]⟩++ay r.I++⟨#[32]⟩++ar 2 M n r.lo++⟨#[32]⟩++ar 2 M n r.hi++⟨#[41]⟩):=by
  show(if(2:Int)=5 then _ else if e.to<2 then _ else _)=_;rw[if_neg (by decide),if_neg aw];rw[if_neg (by decide)]
 rw[I]
 have E:=fun(q:World) (A:aa w q)=>dU (h.U A) e.to ad.2.2
 have z:=jw h.wf av e.to
 have s:=h.ee e.to
 obtain⟨r,S⟩:∃r,r=al (look M.cs e.to):=⟨_,rfl⟩
 obtain⟨b,L⟩:∃b,b=eT (look M.cs e.to):=⟨_,rfl⟩
 simp only[←S,←L]at E z s ⊢
 have K:0≤r.I:=s.I.1
 have J:r.I≤255:=s.I.2
 have J:0≤r.J:=s.J.1
 have ad:r.J≤255:=s.J.2
 have U:=Lib.hid E
 have Y:=Lib.hid (fun q=>cR r.I q K z.1)
 have K:=Lib.hid (fun q=>cR r.J q J z.2)
 have X:=Lib.hid s.lo
 have W:=Lib.hid s.hi
 have ab:=Lib.hid T
 have J:=Lib.hid I
 clear h E T z s S L I
 go_enter Tryz.func172,Tryz.ntmps172
 go_wp2_with (first|(go_at_call 78;refine(U.out _ (by(exact kp))).mono ?_;rintro s j ⟨rfl,s⟩;have N:aa w j:=(by(exact kp)))|fail)
 have s:=ai.cell (W0:=j.alloc (.cells #[.int .u8 r.ad,.int .u8 r.I,.int .u8 r.J,.int .u8 r.lo.tag,.int .u32 r.lo.to,.int .u8 r.hi.tag,.int .u32 r.hi.to] 134)) (a:=⟨j.heap.size,1,none⟩) (v:=.int .u8 r.I) (by simp)
 have s:=ai.cell (W0:=j.alloc (.cells #[.int .u8 r.ad,.int .u8 r.I,.int .u8 r.J,.int .u8 r.lo.tag,.int .u32 r.lo.to,.int .u8 r.hi.tag,.int .u32 r.hi.to] 134)) (a:=⟨j.heap.size,2,none⟩) (v:=.int .u8 r.J) (by simp)
 have s:=ai.cell (W0:=j.alloc (.cells #[.int .u8 r.ad,.int .u8 r.I,.int .u8 r.J,.int .u8 r.lo.tag,.int .u32 r.lo.to,.int .u8 r.hi.tag,.int .u32 r.hi.to] 134)) (a:=⟨j.heap.size,3,none⟩) (v:=.int .u8 r.lo.tag) (by simp)
 have s:=ai.cell (W0:=j.alloc (.cells #[.int .u8 r.ad,.int .u8 r.I,.int .u8 r.J,.int .u8 r.lo.tag,.int .u32 r.lo.to,.int .u8 r.hi.tag,.int .u32 r.hi.to] 134)) (a:=⟨j.heap.size,4,none⟩) (v:=.int .u32 r.lo.to) (by simp)
 have s:=ai.cell (W0:=j.alloc (.cells #[.int .u8 r.ad,.int .u8 r.I,.int .u8 r.J,.int .u8 r.lo.tag,.int .u32 r.lo.to,.int .u8 r.hi.tag,.int .u32 r.hi.to] 134)) (a:=⟨j.heap.size,5,none⟩) (v:=.int .u8 r.hi.tag) (by simp)
 have s:=ai.cell (W0:=j.alloc (.cells #[.int .u8 r.ad,.int .u8 r.I,.int .u8 r.J,.int .u8 r.lo.tag,.int .u32 r.lo.to,.int .u8 r.hi.tag,.int .u32 r.hi.to] 134)) (a:=⟨j.heap.size,6,none⟩) (v:=.int .u32 r.hi.to) (by simp)
 have Z:=Lib.hid (fun(t:Edge) (q:World) (A:aa (j.alloc (.cells #[.int .u8 r.ad,.int .u8 r.I,.int .u8 r.J,.int .u8 r.lo.tag,.int .u32 r.lo.to,.int .u8 r.hi.tag,.int .u32 r.hi.to] 134)) q)=>ab.out t q (N.trans (((aa.refl _).alloc _).trans A)))
 have q:=bH r.I
 have q:=bH r.J
 have q:=fP 2 M O r.lo
 have q:=fP 2 M O r.hi
 have q:IntKind.i64.wrap (d-1)=d-1:=IntWalk.i64_in _ (by omega)
 refine dO (j.alloc (.cells #[.int .u8 r.ad,.int .u8 r.I,.int .u8 r.J,.int .u8 r.lo.tag,.int .u32 r.lo.to,.int .u8 r.hi.tag,.int .u32 r.hi.to] 134)) (by kernel_rfl) (by kernel_rfl) (aa.refl _) ?_
 (repeat (go_big_quiet_step ((first|(go_at_call 214;with_reducible refine Calls.b4 (Y.out _))|(go_at_call 172;with_reducible refine Calls.b4 (Z.out _ _ (ai.a4 _) (by first|exact X.out|exact W.out)))))))
 refine wpQuiet_nil ?_
 rintro j ⟨⟨a3,am⟩,rfl⟩
 try dsimp only
 go_wp2_with fail
 go_ret
 exact⟨rfl,N.trans (((aa.refl _).alloc _).trans am)⟩

theorem B4 {F:Nat→Prop}{w:World}{q:Nat}{M:St}(h:ag F w q M)(A:M.n≤9):∀(n:Nat),n≤20→∀(e:Edge) (j:World),aa w j→e.ok →
  Calls Tryz.prog 172 #[.pointer (some ⟨q,0,none⟩),.agg #[.int .u8 e.tag,.int .u32 e.to],.int .i64 ((n:Int)-1)] j fun r s=>r=.returned (.string (ar 2 M n e))∧aa j s:=by
 intro n
 induction n with
 |zero=>intro _ e j _ _;exact B5 q e j
 |succ n I=>
  intro s e j t z;have s:((n+1:Nat):Int)-1=(n:Int):=by omega
  rw[s];by_cases s:e.to<2
  ·have E:ar 2 M (n+1) e=ay e.to:=by
    show(if(2:Int)=5 then _ else if e.to<2 then _ else _)=_;rw[if_neg (by decide),if_pos s]
   rw[E];exact B6 q e _ j (by omega) z s
  ·exact B7 (h.U t) A e _ n (by omega) (by omega) (by omega) z s (fun q j s z=>I (by omega) q j (t.trans s) z)

theorem BJ (j:Nat)(e:Edge)(w:World):Calls Tryz.prog 173 #[.pointer (some ⟨j,0,none⟩),.agg #[.int .u8 e.tag,.int .u32 e.to],.int .i64 (-1)] w fun r q=>r=.returned (.string ⟨#[63]⟩)∧aa w q:=by
 go_enter Tryz.func173,Tryz.ntmps173
 go_wp2
 go_ret
 exact⟨rfl,by(exact kp)⟩

theorem BK (s:Nat)(e:Edge)(d:Int)(w:World)(z:0≤d)(q:e.ok)(A:e.to<2):Calls Tryz.prog 173 #[.pointer (some ⟨s,0,none⟩),.agg #[.int .u8 e.tag,.int .u32 e.to],.int .i64 d] w fun r t=>r=.returned (.string (ay e.to))∧aa w t:=by
 have s:0≤e.to:=q.2.1;have j:=Lib.hid (fun q=>cR e.to q s (by omega));go_enter Tryz.func173,Tryz.ntmps173
 go_wp2_with (first|(go_at_call 214;refine(j.out _).mono ?_;rintro j w1 ⟨rfl,j⟩)|fail)
 go_ret
 exact⟨rfl,by(exact kp)⟩

theorem BL {F:Nat→Prop}{w:World}{J:Nat}{M:St}(h:ag F w J M)(aw:M.n≤9)(e:Edge)(d:Int)(n:Nat)(a2:0≤d)(a3:d≤100)(O:n≤20)(am:e.ok)(a1:¬e.to<2)
  (T:∀(t:Edge) (q:World),aa w q→t.ok→Calls Tryz.prog 173 #[.pointer (some ⟨J,0,none⟩),.agg #[.int .u8 t.tag,.int .u32 t.to],.int .i64 (d-1)] q fun r K=>r=.returned (.string (ar 3 M n t))∧aa q K) :
  Calls Tryz.prog 173 #[.pointer (some ⟨J,0,none⟩),.agg #[.int .u8 e.tag,.int .u32 e.to],.int .i64 d] w fun r K=>r=.returned (.string (ar 3 M (n+1) e))∧aa w K:=by
 have I:ar 3 M (n+1) e=(let r:=al (look M.cs e.to);⟨#[40]⟩++ay r.I++⟨#[58]⟩++ay r.J++⟨#[32]⟩++ar 3 M n r.lo++⟨#[32]⟩++ar 3 M n r.hi++⟨#[41]⟩):=by
  show(if(3:Int)=5 then _ else if e.to<2 then _ else _)=_;rw[if_neg (by decide),if_neg a1];rw[if_pos (by decide)]
 rw[I]
 have E:=fun(q:World) (A:aa w q)=>dU (h.U A) e.to am.2.2
 have z:=jw h.wf aw e.to
 have s:=h.ee e.to
 obtain⟨r,S⟩:∃r,r=al (look M.cs e.to):=⟨_,rfl⟩
 obtain⟨b,L⟩:∃b,b=eT (look M.cs e.to):=⟨_,rfl⟩
 simp only[←S,←L]at E z s ⊢
 have K:0≤r.I:=s.I.1
 have J:r.I≤255:=s.I.2
 have J:0≤r.J:=s.J.1
 have am:r.J≤255:=s.J.2
 have U:=Lib.hid E
 have Z:=Lib.hid (fun q=>cR r.I q K z.1)
 have Y:=Lib.hid (fun q=>cR r.J q J z.2)
 have X:=Lib.hid s.lo
 have W:=Lib.hid s.hi
 have ad:=Lib.hid T
 have J:=Lib.hid I
 clear h E T z s S L I
 go_enter Tryz.func173,Tryz.ntmps173
 go_wp2_with (first|(go_at_call 78;refine(U.out _ (by(exact kp))).mono ?_;rintro s j ⟨rfl,s⟩;have N:aa w j:=(by(exact kp)))|fail)
 have s:=ai.cell (W0:=j.alloc (.cells #[.int .u8 r.ad,.int .u8 r.I,.int .u8 r.J,.int .u8 r.lo.tag,.int .u32 r.lo.to,.int .u8 r.hi.tag,.int .u32 r.hi.to] 134)) (a:=⟨j.heap.size,1,none⟩) (v:=.int .u8 r.I) (by simp)
 have s:=ai.cell (W0:=j.alloc (.cells #[.int .u8 r.ad,.int .u8 r.I,.int .u8 r.J,.int .u8 r.lo.tag,.int .u32 r.lo.to,.int .u8 r.hi.tag,.int .u32 r.hi.to] 134)) (a:=⟨j.heap.size,2,none⟩) (v:=.int .u8 r.J) (by simp)
 have s:=ai.cell (W0:=j.alloc (.cells #[.int .u8 r.ad,.int .u8 r.I,.int .u8 r.J,.int .u8 r.lo.tag,.int .u32 r.lo.to,.int .u8 r.hi.tag,.int .u32 r.hi.to] 134)) (a:=⟨j.heap.size,3,none⟩) (v:=.int .u8 r.lo.tag) (by simp)
 have s:=ai.cell (W0:=j.alloc (.cells #[.int .u8 r.ad,.int .u8 r.I,.int .u8 r.J,.int .u8 r.lo.tag,.int .u32 r.lo.to,.int .u8 r.hi.tag,.int .u32 r.hi.to] 134)) (a:=⟨j.heap.size,4,none⟩) (v:=.int .u32 r.lo.to) (by simp)
 have s:=ai.cell (W0:=j.alloc (.cells #[.int .u8 r.ad,.int .u8 r.I,.int .u8 r.J,.int .u8 r.lo.tag,.int .u32 r.lo.to,.int .u8 r.hi.tag,.int .u32 r.hi.to] 134)) (a:=⟨j.heap.size,5,none⟩) (v:=.int .u8 r.hi.tag) (by simp)
 have s:=ai.cell (W0:=j.alloc (.cells #[.int .u8 r.ad,.int .u8 r.I,.int .u8 r.J,.int .u8 r.lo.tag,.int .u32 r.lo.to,.int .u8 r.hi.tag,.int .u32 r.hi.to] 134)) (a:=⟨j.heap.size,6,none⟩) (v:=.int .u32 r.hi.to) (by simp)
 have ab:=Lib.hid (fun(t:Edge) (q:World) (A:aa (j.alloc (.cells #[.int .u8 r.ad,.int .u8 r.I,.int .u8 r.J,.int .u8 r.lo.tag,.int .u32 r.lo.to,.int .u8 r.hi.tag,.int .u32 r.hi.to] 134)) q)=>ad.out t q (N.trans (((aa.refl _).alloc _).trans A)))
 have q:=bH r.I
 have q:=bH r.J
 have q:=fP 3 M O r.lo
 have q:=fP 3 M O r.hi
 have q:IntKind.i64.wrap (d-1)=d-1:=IntWalk.i64_in _ (by omega)
 refine dO (j.alloc (.cells #[.int .u8 r.ad,.int .u8 r.I,.int .u8 r.J,.int .u8 r.lo.tag,.int .u32 r.lo.to,.int .u8 r.hi.tag,.int .u32 r.hi.to] 134)) (by kernel_rfl) (by kernel_rfl) (aa.refl _) ?_
 (repeat (go_big_quiet_step ((first|(go_at_call 214;with_reducible refine Calls.b4 (Z.out _))|(go_at_call 214;with_reducible refine Calls.b4 (Y.out _))|(go_at_call 173;with_reducible refine Calls.b4 (ab.out _ _ (ai.a4 _) (by first|exact X.out|exact W.out)))))))
 refine wpQuiet_nil ?_
 rintro j ⟨⟨a4,av⟩,rfl⟩
 try dsimp only
 go_wp2_with fail
 go_ret
 exact⟨rfl,N.trans (((aa.refl _).alloc _).trans av)⟩

theorem BI {F:Nat→Prop}{w:World}{q:Nat}{M:St}(h:ag F w q M)(A:M.n≤9):∀(n:Nat),n≤20→∀(e:Edge) (j:World),aa w j→e.ok →
  Calls Tryz.prog 173 #[.pointer (some ⟨q,0,none⟩),.agg #[.int .u8 e.tag,.int .u32 e.to],.int .i64 ((n:Int)-1)] j fun r s=>r=.returned (.string (ar 3 M n e))∧aa j s:=by
 intro n
 induction n with
 |zero=>intro _ e j _ _;exact BJ q e j
 |succ n I=>
  intro s e j t z;have s:((n+1:Nat):Int)-1=(n:Int):=by omega
  rw[s];by_cases s:e.to<2
  ·have E:ar 3 M (n+1) e=ay e.to:=by
    show(if(3:Int)=5 then _ else if e.to<2 then _ else _)=_;rw[if_neg (by decide),if_pos s]
   rw[E];exact BK q e _ j (by omega) z s
  ·exact BL (h.U t) A e _ n (by omega) (by omega) (by omega) z s (fun q j s z=>I (by omega) q j (t.trans s) z)

theorem BO (j:Nat)(e:Edge)(w:World):Calls Tryz.prog 174 #[.pointer (some ⟨j,0,none⟩),.agg #[.int .u8 e.tag,.int .u32 e.to],.int .i64 (-1)] w fun r q=>r=.returned (.string ⟨#[63]⟩)∧aa w q:=by
 go_enter Tryz.func174,Tryz.ntmps174
 go_wp2
 go_ret
 exact⟨rfl,by(exact kp)⟩

theorem BP (s:Nat)(e:Edge)(d:Int)(w:World)(z:0≤d)(q:e.ok)(A:e.to<2):Calls Tryz.prog 174 #[.pointer (some ⟨s,0,none⟩),.agg #[.int .u8 e.tag,.int .u32 e.to],.int .i64 d] w fun r t=>r=.returned (.string (ay e.to))∧aa w t:=by
 have s:0≤e.to:=q.2.1;have j:=Lib.hid (fun q=>cR e.to q s (by omega));go_enter Tryz.func174,Tryz.ntmps174
 go_wp2_with (first|(go_at_call 214;refine(j.out _).mono ?_;rintro j w1 ⟨rfl,j⟩)|fail)
 go_ret
 exact⟨rfl,by(exact kp)⟩

theorem BQ {F:Nat→Prop}{w:World}{J:Nat}{M:St}(h:ag F w J M)(aw:M.n≤9)(e:Edge)(d:Int)(n:Nat)(a2:0≤d)(a3:d≤100)(O:n≤20)(am:e.ok)(a1:¬e.to<2)
  (T:∀(t:Edge) (q:World),aa w q→t.ok→Calls Tryz.prog 174 #[.pointer (some ⟨J,0,none⟩),.agg #[.int .u8 t.tag,.int .u32 t.to],.int .i64 (d-1)] q fun r K=>r=.returned (.string (ar 4 M n t))∧aa q K) :
  Calls Tryz.prog 174 #[.pointer (some ⟨J,0,none⟩),.agg #[.int .u8 e.tag,.int .u32 e.to],.int .i64 d] w fun r K=>r=.returned (.string (ar 4 M (n+1) e))∧aa w K:=by
 have I:ar 4 M (n+1) e=(let r:=al (look M.cs e.to);⟨#[40]⟩++ay r.I++⟨#[58]⟩++ay r.J++⟨#[32]⟩++ar 4 M n r.lo++⟨#[32]⟩++ar 4 M n r.hi++⟨#[41]⟩):=by
  show(if(4:Int)=5 then _ else if e.to<2 then _ else _)=_;rw[if_neg (by decide),if_neg a1];rw[if_pos (by decide)]
 rw[I]
 have E:=fun(q:World) (A:aa w q)=>dU (h.U A) e.to am.2.2
 have z:=jw h.wf aw e.to
 have s:=h.ee e.to
 obtain⟨r,S⟩:∃r,r=al (look M.cs e.to):=⟨_,rfl⟩
 obtain⟨b,L⟩:∃b,b=eT (look M.cs e.to):=⟨_,rfl⟩
 simp only[←S,←L]at E z s ⊢
 have K:0≤r.I:=s.I.1
 have J:r.I≤255:=s.I.2
 have J:0≤r.J:=s.J.1
 have am:r.J≤255:=s.J.2
 have U:=Lib.hid E
 have Z:=Lib.hid (fun q=>cR r.I q K z.1)
 have Y:=Lib.hid (fun q=>cR r.J q J z.2)
 have X:=Lib.hid s.lo
 have W:=Lib.hid s.hi
 have ad:=Lib.hid T
 have J:=Lib.hid I
 clear h E T z s S L I
 go_enter Tryz.func174,Tryz.ntmps174
 go_wp2_with (first|(go_at_call 78;refine(U.out _ (by(exact kp))).mono ?_;rintro s j ⟨rfl,s⟩;have N:aa w j:=(by(exact kp)))|fail)
 have s:=ai.cell (W0:=j.alloc (.cells #[.int .u8 r.ad,.int .u8 r.I,.int .u8 r.J,.int .u8 r.lo.tag,.int .u32 r.lo.to,.int .u8 r.hi.tag,.int .u32 r.hi.to] 134)) (a:=⟨j.heap.size,1,none⟩) (v:=.int .u8 r.I) (by simp)
 have s:=ai.cell (W0:=j.alloc (.cells #[.int .u8 r.ad,.int .u8 r.I,.int .u8 r.J,.int .u8 r.lo.tag,.int .u32 r.lo.to,.int .u8 r.hi.tag,.int .u32 r.hi.to] 134)) (a:=⟨j.heap.size,2,none⟩) (v:=.int .u8 r.J) (by simp)
 have s:=ai.cell (W0:=j.alloc (.cells #[.int .u8 r.ad,.int .u8 r.I,.int .u8 r.J,.int .u8 r.lo.tag,.int .u32 r.lo.to,.int .u8 r.hi.tag,.int .u32 r.hi.to] 134)) (a:=⟨j.heap.size,3,none⟩) (v:=.int .u8 r.lo.tag) (by simp)
 have s:=ai.cell (W0:=j.alloc (.cells #[.int .u8 r.ad,.int .u8 r.I,.int .u8 r.J,.int .u8 r.lo.tag,.int .u32 r.lo.to,.int .u8 r.hi.tag,.int .u32 r.hi.to] 134)) (a:=⟨j.heap.size,4,none⟩) (v:=.int .u32 r.lo.to) (by simp)
 have s:=ai.cell (W0:=j.alloc (.cells #[.int .u8 r.ad,.int .u8 r.I,.int .u8 r.J,.int .u8 r.lo.tag,.int .u32 r.lo.to,.int .u8 r.hi.tag,.int .u32 r.hi.to] 134)) (a:=⟨j.heap.size,5,none⟩) (v:=.int .u8 r.hi.tag) (by simp)
 have s:=ai.cell (W0:=j.alloc (.cells #[.int .u8 r.ad,.int .u8 r.I,.int .u8 r.J,.int .u8 r.lo.tag,.int .u32 r.lo.to,.int .u8 r.hi.tag,.int .u32 r.hi.to] 134)) (a:=⟨j.heap.size,6,none⟩) (v:=.int .u32 r.hi.to) (by simp)
 have ab:=Lib.hid (fun(t:Edge) (q:World) (A:aa (j.alloc (.cells #[.int .u8 r.ad,.int .u8 r.I,.int .u8 r.J,.int .u8 r.lo.tag,.int .u32 r.lo.to,.int .u8 r.hi.tag,.int .u32 r.hi.to] 134)) q)=>ad.out t q (N.trans (((aa.refl _).alloc _).trans A)))
 have q:=bH r.I
 have q:=bH r.J
 have q:=fP 4 M O r.lo
 have q:=fP 4 M O r.hi
 have q:IntKind.i64.wrap (d-1)=d-1:=IntWalk.i64_in _ (by omega)
 refine dO (j.alloc (.cells #[.int .u8 r.ad,.int .u8 r.I,.int .u8 r.J,.int .u8 r.lo.tag,.int .u32 r.lo.to,.int .u8 r.hi.tag,.int .u32 r.hi.to] 134)) (by kernel_rfl) (by kernel_rfl) (aa.refl _) ?_
 (repeat (go_big_quiet_step ((first|(go_at_call 214;with_reducible refine Calls.b4 (Z.out _))|(go_at_call 214;with_reducible refine Calls.b4 (Y.out _))|(go_at_call 174;with_reducible refine Calls.b4 (ab.out _ _ (ai.a4 _) (by first|exact X.out|exact W.out)))))))
 refine wpQuiet_nil ?_
 rintro j ⟨⟨a4,av⟩,rfl⟩
 try dsimp only
 go_wp2_with fail
 go_ret
 exact⟨rfl,N.trans (((aa.refl _).alloc _).trans av)⟩

theorem BN {F:Nat→Prop}{w:World}{q:Nat}{M:St}(h:ag F w q M)(A:M.n≤9):∀(n:Nat),n≤20→∀(e:Edge) (j:World),aa w j→e.ok →
  Calls Tryz.prog 174 #[.pointer (some ⟨q,0,none⟩),.agg #[.int .u8 e.tag,.int .u32 e.to],.int .i64 ((n:Int)-1)] j fun r s=>r=.returned (.string (ar 4 M n e))∧aa j s:=by
 intro n
 induction n with
 |zero=>intro _ e j _ _;exact BO q e j
 |succ n I=>
  intro s e j t z;have s:((n+1:Nat):Int)-1=(n:Int):=by omega
  rw[s];by_cases s:e.to<2
  ·have E:ar 4 M (n+1) e=ay e.to:=by
    show(if(4:Int)=5 then _ else if e.to<2 then _ else _)=_;rw[if_neg (by decide),if_pos s]
   rw[E];exact BP q e _ j (by omega) z s
  ·exact BQ (h.U t) A e _ n (by omega) (by omega) (by omega) z s (fun q j s z=>I (by omega) q j (t.trans s) z)

theorem BY (j:Nat)(e:Edge)(w:World):Calls Tryz.prog 175 #[.pointer (some ⟨j,0,none⟩),.agg #[.int .u8 e.tag,.int .u32 e.to],.int .i64 (-1)] w fun r q=>r=.returned (.string ⟨#[63]⟩)∧aa w q:=by
 go_enter Tryz.func175,Tryz.ntmps175
 go_wp2
 go_ret
 exact⟨rfl,by(exact kp)⟩

theorem B3 (j:Nat)(q d:Int)(w:World)(t:0≤d):Calls Tryz.prog 175 #[.pointer (some ⟨j,0,none⟩),.agg #[.int .u8 q,.int .u32 0],.int .i64 d] w fun r s=>r=.returned (.string ⟨#[48]⟩)∧aa w s:=by
 go_enter Tryz.func175,Tryz.ntmps175
 go_wp2
 go_ret
 exact⟨rfl,by(exact kp)⟩

theorem B1 (s:Nat)(j d:Int)(w:World)(E:0≤d)(t:0≤j)(z:j<10):Calls Tryz.prog 175 #[.pointer (some ⟨s,0,none⟩),.agg #[.int .u8 j,.int .u32 1],.int .i64 d] w fun r A=>r=.returned (.string (ay j++⟨#[64]⟩++⟨#[49]⟩))∧aa w A:=by
 have q:=Lib.hid (fun s=>nn j s t z);have s:=bH j;go_enter Tryz.func175,Tryz.ntmps175
 go_wp2_with (first|(go_at_call 215;refine(q.out _).mono ?_;rintro j w1 ⟨rfl,j⟩)|fail)
 go_ret
 exact⟨rfl,by(exact kp)⟩

theorem BZ {F:Nat→Prop}{w:World}{L:Nat}{M:St}(h:ag F w L M)(a1:M.n≤9)(e:Edge)(d:Int)(n:Nat)(a4:0≤d)(a5:d≤100)(T:n≤20)(z:e.ok)(a6:¬e.to<2)(a2:e.tag<10)
  (J:(al (look M.cs e.to)).lo.tag<10∧(al (look M.cs e.to)).hi.tag<10)
  (W:∀(s:Edge) (q:World),aa w q→s.ok→s.tag<10→Calls Tryz.prog 175 #[.pointer (some ⟨L,0,none⟩),.agg #[.int .u8 s.tag,.int .u32 s.to],.int .i64 (d-1)] q fun r N=>r=.returned (.string (ar 5 M n s))∧aa q N) :
  Calls Tryz.prog 175 #[.pointer (some ⟨L,0,none⟩),.agg #[.int .u8 e.tag,.int .u32 e.to],.int .i64 d] w fun r N=>r=.returned (.string (ar 5 M (n+1) e))∧aa w N:=by
 have K:ar 5 M (n+1) e=(let r:=al (look M.cs e.to);ay e.tag++⟨#[64]⟩++⟨#[40]⟩++ay r.I++⟨#[32]⟩++ar 5 M n r.lo++⟨#[32]⟩++ar 5 M n r.hi++⟨#[41]⟩):=by
  show(if(5:Int)=5 then(if e.to=0 then _ else if e.to=1 then _ else _)else _)=_;rw[if_pos (by decide),if_neg (by omega),if_neg (by omega)]
 rw[K]
 have I:=fun(q:World) (E:aa w q)=>dU (h.U E) e.to z.2.2
 have A:=jw h.wf a1 e.to
 have t:=h.ee e.to
 obtain⟨r,U⟩:∃r,r=al (look M.cs e.to):=⟨_,rfl⟩
 obtain⟨b,O⟩:∃b,b=eT (look M.cs e.to):=⟨_,rfl⟩
 simp only[←U,←O]at I A t J ⊢
 have L:¬e.to=0:=by omega
 have L:¬e.to=1:=by omega
 have ad:=Lib.hid (fun q=>nn e.tag q z.1.1 a2)
 have L:0≤e.tag:=z.1.1
 have L:e.tag≤255:=z.1.2
 have L:0≤r.I:=t.I.1
 have z:r.I≤255:=t.I.2
 have z:0≤r.J:=t.J.1
 have N:r.J≤255:=t.J.2
 have X:=Lib.hid I
 have ab:=Lib.hid (fun q=>cR r.I q L A.1)
 have L:=Lib.hid (fun q=>cR r.J q z A.2)
 have Z:=Lib.hid (And.intro t.lo J.1)
 have Y:=Lib.hid (And.intro t.hi J.2)
 have av:=Lib.hid W
 have z:=Lib.hid K
 clear h I W A t U O K
 go_enter Tryz.func175,Tryz.ntmps175
 go_wp2_with (first|(go_at_call 78;refine(X.out _ (by(exact kp))).mono ?_;rintro t j ⟨rfl,t⟩;have S:aa w j:=(by(exact kp));have a3:=t.cell (a:=⟨w.heap.size,0,none⟩) (v:=.int .u8 e.tag) (by simp[go_sem]))|fail)
 have kE:=ai.cell (W0:=j.alloc (.cells #[.int .u8 r.ad,.int .u8 r.I,.int .u8 r.J,.int .u8 r.lo.tag,.int .u32 r.lo.to,.int .u8 r.hi.tag,.int .u32 r.hi.to] 134)) (a:=⟨w.heap.size,0,none⟩) (v:=.int .u8 e.tag) (((aa.refl _).alloc _).cell a3)
 have t:=ai.cell (W0:=j.alloc (.cells #[.int .u8 r.ad,.int .u8 r.I,.int .u8 r.J,.int .u8 r.lo.tag,.int .u32 r.lo.to,.int .u8 r.hi.tag,.int .u32 r.hi.to] 134)) (a:=⟨j.heap.size,1,none⟩) (v:=.int .u8 r.I) (by simp)
 have t:=ai.cell (W0:=j.alloc (.cells #[.int .u8 r.ad,.int .u8 r.I,.int .u8 r.J,.int .u8 r.lo.tag,.int .u32 r.lo.to,.int .u8 r.hi.tag,.int .u32 r.hi.to] 134)) (a:=⟨j.heap.size,2,none⟩) (v:=.int .u8 r.J) (by simp)
 have t:=ai.cell (W0:=j.alloc (.cells #[.int .u8 r.ad,.int .u8 r.I,.int .u8 r.J,.int .u8 r.lo.tag,.int .u32 r.lo.to,.int .u8 r.hi.tag,.int .u32 r.hi.to] 134)) (a:=⟨j.heap.size,3,none⟩) (v:=.int .u8 r.lo.tag) (by simp)
 have t:=ai.cell (W0:=j.alloc (.cells #[.int .u8 r.ad,.int .u8 r.I,.int .u8 r.J,.int .u8 r.lo.tag,.int .u32 r.lo.to,.int .u8 r.hi.tag,.int .u32 r.hi.to] 134)) (a:=⟨j.heap.size,4,none⟩) (v:=.int .u32 r.lo.to) (by simp)
 have t:=ai.cell (W0:=j.alloc (.cells #[.int .u8 r.ad,.int .u8 r.I,.int .u8 r.J,.int .u8 r.lo.tag,.int .u32 r.lo.to,.int .u8 r.hi.tag,.int .u32 r.hi.to] 134)) (a:=⟨j.heap.size,5,none⟩) (v:=.int .u8 r.hi.tag) (by simp)
 have t:=ai.cell (W0:=j.alloc (.cells #[.int .u8 r.ad,.int .u8 r.I,.int .u8 r.J,.int .u8 r.lo.tag,.int .u32 r.lo.to,.int .u8 r.hi.tag,.int .u32 r.hi.to] 134)) (a:=⟨j.heap.size,6,none⟩) (v:=.int .u32 r.hi.to) (by simp)
 have am:=Lib.hid (fun(s:Edge) (q:World) (E:aa (j.alloc (.cells #[.int .u8 r.ad,.int .u8 r.I,.int .u8 r.J,.int .u8 r.lo.tag,.int .u32 r.lo.to,.int .u8 r.hi.tag,.int .u32 r.hi.to] 134)) q)=>fun(t:s.ok∧s.tag<10)=>av.out s q (S.trans (((aa.refl _).alloc _).trans E)) t.1 t.2)
 have q:=bH e.tag
 have q:=bH r.I
 have q:=bH r.J
 have q:=fP 5 M T r.lo
 have q:=fP 5 M T r.hi
 have q:IntKind.i64.wrap (d-1)=d-1:=IntWalk.i64_in _ (by omega)
 refine dO (j.alloc (.cells #[.int .u8 r.ad,.int .u8 r.I,.int .u8 r.J,.int .u8 r.lo.tag,.int .u32 r.lo.to,.int .u8 r.hi.tag,.int .u32 r.hi.to] 134)) (by kernel_rfl) (by kernel_rfl) (aa.refl _) ?_
 (repeat (go_big_quiet_step ((first|(go_at_call 215;with_reducible refine Calls.b4 (ad.out _))|(go_at_call 214;with_reducible refine Calls.b4 (ab.out _))|(go_at_call 175;with_reducible refine Calls.b4 (am.out _ _ (ai.a4 _) (by first|exact Z.out|exact Y.out)))))))
 refine wpQuiet_nil ?_
 rintro j ⟨⟨a7,aw⟩,rfl⟩
 try dsimp only
 go_wp2_with fail
 go_ret
 exact⟨rfl,S.trans (((aa.refl _).alloc _).trans aw)⟩

theorem mh {M:St}{f:Int}{e:Edge}{l:Int}(h:M.leads f e l=true)(j:M.n≤9):e.tag<10:=by
 obtain⟨s,t,z,A,E,I,j,q⟩:=bj.1 (gO h).1;by_cases c:f≠5∨e.to=0;·have:=j c;omega
 ·have:=q (by omega) (by omega);omega

theorem ve {M:St}(h:M.wf)(q:M.n≤9)(id:Int):(al (look M.cs id)).lo.tag<10∧(al (look M.cs id)).hi.tag<10:=by
 cases j:look M.cs id with
 |none=>exact⟨by decide,by decide⟩
 |some r=>exact⟨mh (h.b7 j).lo q,mh (h.b7 j).hi q⟩

theorem BX {F:Nat→Prop}{w:World}{q:Nat}{M:St}(h:ag F w q M)(I:M.n≤9):∀(n:Nat),n≤20→∀(e:Edge) (j:World),aa w j→e.ok→e.tag<10 →
  Calls Tryz.prog 175 #[.pointer (some ⟨q,0,none⟩),.agg #[.int .u8 e.tag,.int .u32 e.to],.int .i64 ((n:Int)-1)] j fun r s=>r=.returned (.string (ar 5 M n e))∧aa j s:=by
 intro n
 induction n with
 |zero=>intro _ e j _ _ _;exact BY q e j
 |succ n K=>
  intro s e j E t J;have s:((n+1:Nat):Int)-1=(n:Int):=by omega
  rw[s];by_cases s:e.to=0
  ·have z:ar 5 M (n+1) e=⟨#[48]⟩:=by
    show(if(5:Int)=5 then(if e.to=0 then _ else _)else _)=_;rw[if_pos (by decide),if_pos s]
   rw[z,s];exact B3 q e.tag _ j (by omega)
  ·by_cases A:e.to=1
   ·have z:ar 5 M (n+1) e=ay e.tag++⟨#[64]⟩++⟨#[49]⟩:=by
     show(if(5:Int)=5 then(if e.to=0 then _ else if e.to=1 then _ else _)else _)=_;rw[if_pos (by decide),if_neg s,if_pos A]
    rw[z,A];exact B1 q e.tag _ j (by omega) t.1.1 J
   ·exact BZ (h.U E) I e _ n (by omega) (by omega) (by omega) t (by have:=t.2.1;omega) J (ve h.wf I e.to) (fun q j s t z=>K (by omega) q j (E.trans s) t z)

end Go.Proofs.YtafkamlhimkbmaaGreat
