/-
  Three calls in their chain, three boxes, and what is stored in them: what stands at each point.
-/
import Derived.Test.YtafkamlhimkbmaaGreatPRulesS
namespace Go.Proofs.YtafkamlhimkbmaaGreat
set_option maxRecDepth 1000000
set_option maxHeartbeats 8000000
set_option linter.unusedSimpArgs false
set_option linter.unusedVariables false
open Go.RowKit
section
variable {w W:World}{hb ob sb kb lb:Nat}{f:Int}{M0:St}{x y:Edge}{X Y:Nat}{c:Int}{G:St→Prop}{Bs:Nat→Prop}
def dN (s:Edge):List Value:=[.int .u8 s.tag,.int .u32 s.to]
structure fy (w:World)(hb ob sb kb lb:Nat)(f:Int)(M0:St)(x y:Edge)(X Y:Nat)(c:Int)(G:St→Prop)(Bs:Nat→Prop)(W:World):Prop where
 ex:∃(F:Nat→Prop) (M:St) (en:Nat→Option (aD×Edge)),bj F W ob sb kb lb M en∧fR F W hb ob kb lb f∧ck M0 M c∧G M∧(∀i,Bs i→¬F i)
 rx:aE W X [.int .u8 x.tag,.int .u32 x.to]
 ry:aE W Y [.int .u8 y.tag,.int .u32 y.to]
 keep:ae w W
 bl:∀i,Bs i→i<W.heap.size∧w.heap.size≤i∧i≠X∧i≠Y∧i≠hb∧i≠ob∧i≠kb∧i≠lb
 bz:∀i,Bs i→∃z:Edge,aE W i (dN z)
theorem cI.fill (h:cI w hb ob sb kb lb f M0 x y X Y c G Bs W):fy w hb ob sb kb lb f M0 x y X Y c G Bs W:=by
 obtain⟨F,M,s,g1,t,u,z,E,I,D,J⟩:=h.ex;exact⟨⟨F,M,s,g1,t,u,z,D⟩,h.rx,h.ry,h.keep,h.bl,fun i hi=>⟨⟨0,0⟩,h.bz i hi⟩⟩
theorem fy.alloc (h:fy w hb ob sb kb lb f M0 x y X Y c G Bs W):fy w hb ob sb kb lb f M0 x y X Y c G (fun i=>Bs i∨i=W.heap.size) (W.alloc (.cells #[.int .u8 0,.int .u32 0] 52)):=by
 obtain⟨o,I⟩:∃o:Obj,o=.cells #[.int .u8 0,.int .u32 0] 52:=⟨_,rfl⟩;have hm:=aE.cf W (dN ⟨0,0⟩) 52;change aE (W.alloc (.cells #[.int .u8 0,.int .u32 0] 52)) _ _ at hm;rw[←I]at hm ⊢;have s:ae W (W.alloc o):=(ae.refl W).alloc o;obtain⟨F,M,u,g1,t,z,D,E⟩:=h.ex;obtain⟨I,N,O⟩:=g1.lt;have I:=t.row.lt;have I:=h.rx.lt;have I:=h.ry.lt;have J:=h.keep.size;have I:=s.size;refine⟨⟨F,M,u,g1.U s,t.U s,z,D,fun i hi hF=>?_⟩,h.rx.U s,h.ry.U s,h.keep.trans s,fun i hi=>?_,fun i hi=>?_⟩
 ·rcases hi with hi|rfl;·exact E i hi hF
  ·have:=g1.a'.lt _ hF;omega
 ·rcases hi with hi|rfl
  ·obtain⟨a,b⟩:=h.bl i hi;exact⟨by omega,b⟩
  ·refine⟨by simp,J,?_,?_,?_,?_,?_,?_⟩<;>omega
 ·rcases hi with hi|rfl
  ·obtain⟨t,q⟩:=h.bz i hi;exact⟨t,q.U s⟩
  ·exact⟨_,hm⟩
theorem fy.store (h:fy w hb ob sb kb lb f M0 x y X Y c G Bs W){B:Nat}(D:Bs B){t:World}(s:af (fun i=>i=B) W t){E:Edge}(Z:aE t B (dN E)):fy w hb ob sb kb lb f M0 x y X Y c G Bs t:=by
 obtain⟨F,M,T,g1,u,U,V,z⟩:=h.ex;obtain⟨ab,ad,t,I,J,N,O,Q⟩:=h.bl B D;have hs:=s.size;refine⟨⟨F,M,T,g1.keep s (fun i hi e=>z B D (e ▸ hi)) (fun e=>N e.symm) (fun e=>O e.symm) (fun e=>Q e.symm),{ u with row:=u.row.upd s (fun e=>J e.symm) },U,V,z⟩,h.rx.upd s (fun e=>t e.symm),h.ry.upd s (fun e=>I e.symm),?_,fun i hi=>?_,fun i hi=>?_⟩;·exact af.U (F:=fun i=>i=B) ((ae.upd h.keep _).bd s) (fun i hi t=>by omega)
 ·obtain⟨a,b⟩:=h.bl i hi;exact⟨by omega,b⟩
 ·by_cases e:i=B;·exact⟨E,e ▸ Z⟩
  ·obtain⟨t,q⟩:=h.bz i hi;exact⟨t,q.upd s e⟩
theorem fy.hB (h:fy w hb ob sb kb lb f M0 x y X Y c G Bs W):nc w hb ob sb kb lb f M0 x y X Y c G W:=by
 obtain⟨F,M,s,g1,t,u,z,D⟩:=h.ex;exact⟨⟨F,M,s,g1,t,u,z⟩,h.rx,h.ry,h.keep⟩
end
def bY (q:Nat):Prop:=q=3∨q=4∨q=5
def ez (s t u:Edge)(q:Nat):Edge:=if q=3 then s else if q=4 then t else u
def bp (R0:(Nat→Prop)→World→Prop)(R1:Edge→(Nat→Prop)→World→Prop)(R2:Edge→Edge→(Nat→Prop)→World→Prop)(R3:Edge→Edge→Edge→(Nat→Prop)→World→Prop)(o:Nat→Option Value)(W:World):Prop:=
 ∃Bs:Nat→Prop,(∀q,bY q→∀v,o q=some v→∃B,v=.pointer (some ⟨B,0,none⟩)∧Bs B)∧(∀q s v,bY q→bY s→q≠s→o q=some v→o s≠some v)∧(∀i,Bs i→i<W.heap.size) ∧
  ((o 0=none∧o 1=none∧o 2=none∧(∀q,bY q→o (q+3)=none)∧R0 Bs W)∨(∃s:Edge,o 0=some (.agg #[.int .u8 s.tag,.int .u32 s.to])∧o 1=none∧o 2=none∧(∀q,bY q→o (q+3)=none)∧R1 s Bs W) ∨
    (∃s t:Edge,o 0=some (.agg #[.int .u8 s.tag,.int .u32 s.to])∧o 1=some (.agg #[.int .u8 t.tag,.int .u32 t.to])∧o 2=none∧(∀q,bY q→o (q+3)=none)∧R2 s t Bs W) ∨
    (∃s t u:Edge,o 0=some (.agg #[.int .u8 s.tag,.int .u32 s.to])∧o 1=some (.agg #[.int .u8 t.tag,.int .u32 t.to])∧o 2=some (.agg #[.int .u8 u.tag,.int .u32 u.to])∧(∀q,bY q→∀v,o (q+3)=some v→∃B,o q=some (.pointer (some ⟨B,0,none⟩))∧aE W B (dN (ez s t u q)))∧R3 s t u Bs W))
section
variable {R0:(Nat→Prop)→World→Prop}{R1:Edge→(Nat→Prop)→World→Prop}{R2:Edge→Edge→(Nat→Prop)→World→Prop}{R3:Edge→Edge→Edge→(Nat→Prop)→World→Prop}{o:Nat→Option Value}{W:World}
theorem fI {k q:Nat}{v:Value}(h:q≠k):br o k v q=o q:=by
 unfold br;rw[ag h]
theorem lZ {k:Nat}{v:Value}(s:¬bY k){q:Nat}(t:bY q):br o k v q=o q:=fI (fun e=>s (by rw[←e];exact t))
theorem bY.ge {q:Nat}(h:bY q):3≤q∧q≤5:=by unfold bY at h;omega
theorem bp.next {k:Nat}{v:Value}{Bs:Nat→Prop}(D:¬bY k)(I:∀q,bY q→∀v,o q=some v→∃B,v=.pointer (some ⟨B,0,none⟩)∧Bs B)(J:∀q s v,bY q→bY s→q≠s→o q=some v→o s≠some v) :
  (∀q,bY q→∀t,br o k v q=some t→∃B,t=.pointer (some ⟨B,0,none⟩)∧Bs B)∧(∀q s t,bY q→bY s→q≠s→br o k v q=some t→br o k v s≠some t):=
 ⟨fun q u t z=>I q u t (by rw[lZ D u]at z;exact z),fun q s t u E N z=>by rw[lZ D u]at z;rw[lZ D E];exact J q s t u E N z⟩
theorem nb (k:Nat)(h:k<3):¬bY k:=fun s=>by unfold bY at s;omega
theorem oN (k:Nat)(h:6≤k):¬bY k:=fun s=>by unfold bY at s;omega
theorem bp.eS {k:Nat}{v:Value}(s:k<6)(h:∀q,bY q→o (q+3)=none):∀q,bY q→br o k v (q+3)=none:=fun q s=>by
 have:=s.ge;rw[fI (by omega)];exact h q s
theorem bp.hv (h:bp R0 R1 R2 R3 o W)(h0:o 0=none):∃Bs,R0 Bs W∧∀(s:Edge) (t:World),W.heap.size≤t.heap.size→R1 s Bs t→bp R0 R1 R2 R3 (br o 0 (.agg #[.int .u8 s.tag,.int .u32 s.to])) t:=by
 obtain⟨Bs,u,z,J,D⟩:=h;rcases D with⟨g0,g1,E,I,g⟩|⟨D,g0,_⟩|⟨D,N,g0,_⟩|⟨D,N,O,g0,_⟩
 ·refine⟨Bs,g,fun s t N D=>⟨Bs,(bp.next (nb 0 (by decide)) u z).1,(bp.next (nb 0 (by decide)) u z).2,fun i hi=>by have:=J i hi;omega,.inr (.inl ⟨s,?_,?_,?_,bp.eS (by decide) I,D⟩)⟩⟩;·unfold br;rw[ai rfl]
  ·unfold br;rw[ag (by decide)];exact g1
  ·unfold br;rw[ag (by decide)];exact E
 all_goals(rw[h0]at g0;cases g0)
theorem bp.hx (h:bp R0 R1 R2 R3 o W)(h0:o 1=none)(J:(o 0).isSome=true):∃s Bs,R1 s Bs W∧∀(t:Edge) (u:World),W.heap.size≤u.heap.size→R2 s t Bs u→bp R0 R1 R2 R3 (br o 1 (.agg #[.int .u8 t.tag,.int .u32 t.to])) u:=by
 obtain⟨Bs,E,I,N,O⟩:=h;rcases O with⟨g0,g1,z,D,g⟩|⟨s,g0,g1,z,D,g⟩|⟨s,O,g0,g1,_⟩|⟨s,O,Q,g0,g1,_⟩
 ·rw[g0]at J;cases J
 ·refine⟨s,Bs,g,fun t u O J=>⟨Bs,(bp.next (nb 1 (by decide)) E I).1,(bp.next (nb 1 (by decide)) E I).2,fun i hi=>by have:=N i hi;omega,.inr (.inr (.inl ⟨s,t,?_,?_,?_,bp.eS (by decide) D,J⟩))⟩⟩;·unfold br;rw[ag (by decide)];exact g0
  ·unfold br;rw[ai rfl]
  ·unfold br;rw[ag (by decide)];exact z
 all_goals(rw[h0]at g1;cases g1)
theorem bp.hy (h:bp R0 R1 R2 R3 o W)(h0:o 2=none)(E:(o 1).isSome=true):∃s t Bs,R2 s t Bs W∧∀(z:Edge) (D:World),W.heap.size≤D.heap.size→R3 s t z Bs D→bp R0 R1 R2 R3 (br o 2 (.agg #[.int .u8 z.tag,.int .u32 z.to])) D:=by
 obtain⟨Bs,J,N,Q,T⟩:=h;rcases T with⟨g0,g1,u,I,g⟩|⟨s,g0,g1,u,I,g⟩|⟨s,t,g0,g1,u,I,g⟩|⟨s,t,T,g0,g1,u,_⟩
 ·rw[g1]at E;cases E
 ·rw[g1]at E;cases E
 ·refine⟨s,t,Bs,g,fun z D T E=>⟨Bs,(bp.next (nb 2 (by decide)) J N).1,(bp.next (nb 2 (by decide)) J N).2,fun i hi=>by have:=Q i hi;omega,.inr (.inr (.inr ⟨s,t,z,?_,?_,?_,fun q U v O=>?_,E⟩))⟩⟩;·unfold br;rw[ag (by decide)];exact g0
  ·unfold br;rw[ag (by decide)];exact g1
  ·unfold br;rw[ai rfl]
  ·rw[bp.eS (by decide) I q U]at O;cases O
 ·rw[h0]at u;cases u
theorem bp.get (h:bp R0 R1 R2 R3 o W){P:Prop}(g0:∀Bs,R0 Bs W→P)(g1:∀s Bs,R1 s Bs W→P)(z:∀s t Bs,R2 s t Bs W→P)(D:∀s t u Bs,R3 s t u Bs W→P):P:=by
 obtain⟨Bs,I,J,N,E⟩:=h;rcases E with⟨_,_,_,_,g⟩|⟨s,_,_,_,_,g⟩|⟨s,t,_,_,_,_,g⟩|⟨s,t,u,_,_,_,_,g⟩
 ·exact g0 _ g
 ·exact g1 _ _ g
 ·exact z _ _ _ g
 ·exact D _ _ _ _ g
theorem bp.box (h:bp R0 R1 R2 R3 o W){q:Nat}(V:bY q)(a0:o q=none){ob:Obj}(ad:∀Bs,R0 Bs W→R0 (fun i=>Bs i∨i=W.heap.size) (W.alloc ob))(ah:∀t Bs,R1 t Bs W→R1 t (fun i=>Bs i∨i=W.heap.size) (W.alloc ob))
  (al:∀t D Bs,R2 t D Bs W→R2 t D (fun i=>Bs i∨i=W.heap.size) (W.alloc ob)) (am:∀t D J Bs,R3 t D J Bs W→R3 t D J (fun i=>Bs i∨i=W.heap.size) (W.alloc ob)) :
  bp R0 R1 R2 R3 (br o q (.pointer (some ⟨W.heap.size,0,none⟩))) (W.alloc ob):=by
 obtain⟨Bs,O,av,Q,aw⟩:=h
 have N:∀k,k<3→br o q (.pointer (some ⟨W.heap.size,0,none⟩)) k=o k:=fun k ay=>fI (fun e=>nb k ay (by rw[e];exact V))
 have ay:=V.ge
 have U:∀r,bY r→o r≠some (.pointer (some ⟨W.heap.size,0,none⟩)):=fun r z E=>by
  obtain⟨B,u,hb⟩:=O r z _ E;injection u with u;injection u with u;injection u with u;have:=Q B hb;omega
 refine⟨fun i=>Bs i∨i=W.heap.size,fun r z v s=>?_,fun r ab v z Z T s=>?_,fun i hi=>?_,?_⟩
 ·unfold br at s;split at s;·injection s with s;exact⟨_,s.symm,.inr rfl⟩
  ·obtain⟨B,u,hb⟩:=O r z v s;exact⟨B,u,.inl hb⟩
 ·unfold br at s ⊢;split at s
  ·rename_i e;injection s with s;subst s;rw[ag (fun e'=>T (e.trans e'.symm))];exact U ab Z
  ·split
   ·intro E;injection E with E;subst E;exact U r z s
   ·exact av r ab v z Z T s
 ·rcases hi with hi|hi;·have:=Q i hi;simp only[ak];omega
  ·simp only[ak];omega
 ·rw[N 0 (by decide),N 1 (by decide),N 2 (by decide)];rcases aw with⟨g0,g1,E,I,g⟩|⟨t,g0,g1,E,I,g⟩|⟨t,D,g0,g1,E,I,g⟩|⟨t,D,J,g0,g1,E,I,g⟩
  ·exact .inl ⟨g0,g1,E,bp.eS (by omega) I,ad _ g⟩
  ·exact .inr (.inl ⟨t,g0,g1,E,bp.eS (by omega) I,ah _ _ g⟩)
  ·exact .inr (.inr (.inl ⟨t,D,g0,g1,E,bp.eS (by omega) I,al _ _ _ g⟩))
  ·refine .inr (.inr (.inr ⟨t,D,J,g0,g1,E,fun r z v s=>?_,am _ _ _ _ g⟩));have t:=z.ge;rw[fI (by omega)]at s;obtain⟨B,u,ax⟩:=I r z v s;exact⟨B,by rw[fI (fun e=>by rw[e,a0]at u;cases u)];exact u,ax.U ((ae.refl W).alloc ob)⟩
theorem bp.store (h:bp R0 R1 R2 R3 o W){q:Nat}(Q:bY q)(h0:(o q).isSome=true)(D:(o 2).isSome=true):∃(s t z:Edge) (B:Nat) (Bs:Nat→Prop),o 0=some (.agg #[.int .u8 s.tag,.int .u32 s.to])∧o 1=some (.agg #[.int .u8 t.tag,.int .u32 t.to])∧o 2=some (.agg #[.int .u8 z.tag,.int .u32 z.to])∧o q=some (.pointer (some ⟨B,0,none⟩))∧Bs B∧R3 s t z Bs W ∧
  ∀(v:Value) (E:World),af (fun i=>i=B) W E→aE E B (dN (ez s t z q))→R3 s t z Bs E→bp R0 R1 R2 R3 (br o (q+3) v) E:=by
 obtain⟨Bs,N,O,Z,ab⟩:=h
 have al:=Q.ge
 rcases ab with⟨g0,g1,u,I,g⟩|⟨s,g0,g1,u,I,g⟩|⟨s,t,g0,g1,u,I,g⟩|⟨s,t,z,g0,g1,u,I,g⟩
 ·rw[u]at D;cases D
 ·rw[u]at D;cases D
 ·rw[u]at D;cases D
 ·obtain⟨D,J⟩:=Option.isSome_iff_exists.1 h0;obtain⟨B,rfl,D⟩:=N q Q _ J;refine⟨s,t,z,B,Bs,g0,g1,u,J,D,g,fun v E U ad ab=>⟨Bs,(bp.next (oN _ (by omega)) N O).1,(bp.next (oN _ (by omega)) N O).2,fun i hi=>by have:=Z i hi;have:=U.size;omega,.inr (.inr (.inr ⟨s,t,z,?_,?_,?_,fun r T ah V=>?_,ab⟩))⟩⟩;·rw[fI (by omega)];exact g0
  ·rw[fI (by omega)];exact g1
  ·rw[fI (by omega)];exact u
  ·have s:=T.ge;by_cases e:r=q
   ·subst e;exact⟨B,by rw[fI (by omega)];exact J,ad⟩
   ·rw[fI (by omega)]at V;obtain⟨t,s,u⟩:=I r T ah V;refine⟨t,by rw[fI (by omega)];exact s,u.upd U (fun e'=>O q r _ Q T (fun t=>e t.symm) J (by rw[s,e']))⟩
theorem bp.hq (h:bp R0 R1 R2 R3 o W){q:Nat}(u:bY q)(t:(o (q+3)).isSome=true):(o 2).isSome=true:=by
 obtain⟨Bs,E,I,J,z⟩:=h;rcases z with⟨_,_,_,s,_⟩|⟨z,_,_,_,s,_⟩|⟨z,E,_,_,_,s,_⟩|⟨z,E,I,g0,g1,D,s,g⟩
 ·rw[s q u]at t;cases t
 ·rw[s q u]at t;cases t
 ·rw[s q u]at t;cases t
 ·rw[D];rfl
theorem bp.done (h:bp R0 R1 R2 R3 o W)(ad:∀k,k<9→(o k).isSome=true):∃(t u D:Edge) (E I J:Nat) (O Q T:Value) (Bs:Nat→Prop),o 0=some (.agg #[.int .u8 t.tag,.int .u32 t.to])∧o 1=some (.agg #[.int .u8 u.tag,.int .u32 u.to])∧o 2=some (.agg #[.int .u8 D.tag,.int .u32 D.to])∧o 3=some (.pointer (some ⟨E,0,none⟩))∧o 4=some (.pointer (some ⟨I,0,none⟩))∧o 5=some (.pointer (some ⟨J,0,none⟩)) ∧
  o 6=some O∧o 7=some Q∧o 8=some T∧aE W E (dN t)∧aE W I (dN u)∧aE W J (dN D)∧R3 t u D Bs W:=by
 obtain⟨Bs,ah,a0,a1,ab⟩:=h
 have hs:∀k,k<9→∃v,o k=some v:=fun k ah=>Option.isSome_iff_exists.1 (ad k ah)
 obtain⟨ad,N⟩:=hs 2 (by decide)
 obtain⟨O,U⟩:=hs 6 (by decide)
 obtain⟨Q,V⟩:=hs 7 (by decide)
 obtain⟨T,Z⟩:=hs 8 (by decide)
 rcases ab with⟨g0,g1,s,z,g⟩|⟨t,g0,g1,s,z,g⟩|⟨t,u,g0,g1,s,z,g⟩|⟨t,u,D,g0,g1,s,z,g⟩
 ·rw[N]at s;cases s
 ·rw[N]at s;cases s
 ·rw[N]at s;cases s
 ·obtain⟨E,al,aw⟩:=z 3 (.inl rfl) _ U;obtain⟨I,am,ax⟩:=z 4 (.inr (.inl rfl)) _ V;obtain⟨J,av,ay⟩:=z 5 (.inr (.inr rfl)) _ Z;exact⟨t,u,D,E,I,J,O,Q,T,Bs,g0,g1,s,al,am,av,U,V,Z,aw,ax,ay,g⟩
end
end Go.Proofs.YtafkamlhimkbmaaGreat
