/-
  Walks of package arena.
-/
import Derived.Test.YtafkamlhimkbmaaGreatPFindA
namespace Go.Proofs.YtafkamlhimkbmaaGreat
set_option maxRecDepth 1000000
set_option maxHeartbeats 8000000
set_option linter.unusedSimpArgs false
set_option linter.unusedVariables false
open Go.RowKit
theorem rq (s:Nat)(id:Int)(cs:Option Addr)(len cap:Nat)(w:World)(u:id≤4294967295)
  (z:w.cell? ⟨s,0,none⟩=some (.slice cs len cap)) (D:len≤1048576) (h:id<2) :
  Calls Tryz.prog 198 #[.pointer (some ⟨s,0,none⟩),.int .u32 id] w fun r t=>r=.returned (.pointer none)∧w=t:=by
 go_enter Tryz.func198,Tryz.ntmps198
 go_wp2
 go_ret
 exact⟨rfl,rfl⟩
theorem ru (s:Nat)(id:Int)(cs:Option Addr)(len cap:Nat)(w:World)(h0:2≤id)(u:id≤4294967295)
  (z:w.cell? ⟨s,0,none⟩=some (.slice cs len cap)) (D:len≤1048576) (h:(len:Int)≤id-2) :
  Calls Tryz.prog 198 #[.pointer (some ⟨s,0,none⟩),.int .u32 id] w fun r t=>r=.returned (.pointer none)∧w=t:=by
 go_enter Tryz.func198,Tryz.ntmps198
 go_wp2
 go_ret
 exact⟨rfl,rfl⟩
theorem rn (s t:Nat)(id:Int)(len cap:Nat)(w:World)(h0:2≤id)(z:id≤4294967295)
  (D:w.cell? ⟨s,0,none⟩=some (.slice (some ⟨t,0,none⟩) len cap)) (I:len≤1048576) (h:id-2<(len:Int))
  (E:w.cell? ⟨t,(id-2).toNat*9+7,none⟩=some (.bool false)) :
  Calls Tryz.prog 198 #[.pointer (some ⟨s,0,none⟩),.int .u32 id] w fun r u=>r=.returned (.pointer none)∧w=u:=by
 go_enter Tryz.func198,Tryz.ntmps198
 go_wp2
 go_ret
 exact⟨rfl,rfl⟩
theorem rp (t s:Nat)(id:Int)(len cap:Nat)(w:World)(h0:2≤id)(z:id≤4294967295)
  (D:w.cell? ⟨t,0,none⟩=some (.slice (some ⟨s,0,none⟩) len cap)) (I:len≤1048576) (h:id-2<(len:Int))
  (E:w.cell? ⟨s,(id-2).toNat*9+7,none⟩=some (.bool true)) :
  Calls Tryz.prog 198 #[.pointer (some ⟨t,0,none⟩),.int .u32 id] w fun r u=>r=.returned (.pointer (some ⟨s,(id-2).toNat*9,none⟩))∧w=u:=by
 go_enter Tryz.func198,Tryz.ntmps198
 go_wp2
 go_ret
 exact⟨rfl,rfl⟩
theorem tO (u:Nat)(id:Int)(w:World)
  (z:∀t,ae w t→Calls Tryz.prog 198 #[.pointer (some ⟨u,0,none⟩),.int .u32 id] t fun r s=>r=.returned (.pointer none)∧t=s) :
  Calls Tryz.prog 133 #[.pointer (some ⟨u,0,none⟩),.int .u32 id] w fun r s=>
   r=.returned (.tuple #[.agg #[.int .u8 0,.int .u8 0,.int .u8 0,.int .u8 0,.int .u32 0,.int .u8 0,.int .u32 0],.bool false])∧ae w s:=by
 have H:=aa z
 clear z
 go_enter Tryz.func133,Tryz.ntmps133
 go_wp2_with (first|(refine(H.out _ kp).mono ?_;rintro e s ⟨rfl,rfl⟩)|fail)
 refine an (v:=.tuple #[.agg #[.int .u8 0,.int .u8 0,.int .u8 0,.int .u8 0,.int .u32 0,.int .u8 0,.int .u32 0],.bool false]) (by simp[results,Tryz.results133,go_sem]) rfl ⟨rfl,kp⟩
theorem tP (z s:Nat)(id:Int)(r:Rec)(w:World)
  (D:∀u,ae w u→Calls Tryz.prog 198 #[.pointer (some ⟨z,0,none⟩),.int .u32 id] u fun r t=>r=.returned (.pointer (some ⟨s,(id-2).toNat*9,none⟩))∧u=t)
  (h0:w.cell? ⟨s,(id-2).toNat*9,none⟩=some (.int .u8 r.ad)) (I:w.cell? ⟨s,(id-2).toNat*9+1,none⟩=some (.int .u8 r.top))
  (J:w.cell? ⟨s,(id-2).toNat*9+2,none⟩=some (.int .u8 r.J)) (N:w.cell? ⟨s,(id-2).toNat*9+3,none⟩=some (.int .u8 r.lo.tag))
  (O:w.cell? ⟨s,(id-2).toNat*9+4,none⟩=some (.int .u32 r.lo.to)) (Q:w.cell? ⟨s,(id-2).toNat*9+5,none⟩=some (.int .u8 r.hi.tag))
  (T:w.cell? ⟨s,(id-2).toNat*9+6,none⟩=some (.int .u32 r.hi.to)) :
  Calls Tryz.prog 133 #[.pointer (some ⟨z,0,none⟩),.int .u32 id] w fun e t=>
   e=.returned (.tuple #[.agg #[.int .u8 r.ad,.int .u8 r.top,.int .u8 r.J,.int .u8 r.lo.tag,.int .u32 r.lo.to,.int .u8 r.hi.tag,.int .u32 r.hi.to],.bool true])∧ae w t:=by
 have H:=aa D
 clear D
 have E:=aJ h0
 dsimp only at E
 have u:s≠w.heap.size:=by omega
 go_enter Tryz.func133,Tryz.ntmps133
 go_wp2_with (first|(refine(H.out _ kp).mono ?_;rintro e t ⟨rfl,rfl⟩)|fail)
 go_outline
 refine an (v:=.tuple #[.agg #[.int .u8 r.ad,.int .u8 r.top,.int .u8 r.J,.int .u8 r.lo.tag,.int .u32 r.lo.to,.int .u8 r.hi.tag,.int .u32 r.hi.to],.bool true]) (by simp[results,Tryz.results133,go_sem]) rfl ⟨rfl,kp⟩
theorem xE (s:Nat)(r:Rec)(t room:Int)(w:World) 
  (u:w.cell? ⟨s,2,none⟩=some (.int .i64 t)) (D:w.cell? ⟨s,3,none⟩=some (.int .i64 room)) (E:room≤t) :
  Calls Tryz.prog 137 #[.pointer (some ⟨s,0,none⟩),.agg #[.int .u8 r.ad,.int .u8 r.top,.int .u8 r.J,.int .u8 r.lo.tag,.int .u32 r.lo.to,.int .u8 r.hi.tag,.int .u32 r.hi.to]] w fun e z=>
   e=.returned (.tuple #[.int .u32 0,.bool false])∧ae w z:=by
 have t:s<w.heap.size:=aJ u
 go_enter Tryz.func137,Tryz.ntmps137
 go_wp2
 go_quiet (fail)
 go_wp2
 go_ret2
 exact⟨rfl,kp⟩
theorem uj:(Tryz.prog.info? 271).map (fun i=>(i.zero,i.size,i.bytes))=some (some (.agg #[.int .u8 0,.int .u8 0,.int .u8 0,.int .u8 0,.int .u32 0,.int .u8 0,.int .u32 0,.bool false,.int .i64 0]),9,32):=by kernel_rfl
theorem xF (s:Nat)(r:Rec)(t:Value)(n:Nat)(N:List Value)(u room:Int)(w:World)(Y:Option Addr)(Z:Nat)
  (h0:w.cell? ⟨s,0,none⟩=some t) (a0:w.cell? ⟨s,1,none⟩=some (.slice Y 0 Z))
  (ad:w.cell? ⟨s,2,none⟩=some (.int .i64 u)) (a1:w.cell? ⟨s,3,none⟩=some (.int .i64 room)) (a4:u<room) (a6:room≤1048576) (a2:0≤u)
  (ah:w.frozen? ⟨s,0,none⟩=false) (a3:w.frozen? ⟨s,2,none⟩=false)
  (J:w.ownsRow 0 271 9 t n N) (a5:n<1048576) (U:t.ownBlock≠some s) :
  Calls Tryz.prog 137 #[.pointer (some ⟨s,0,none⟩),.agg #[.int .u8 r.ad,.int .u8 r.top,.int .u8 r.J,.int .u8 r.lo.tag,.int .u32 r.lo.to,.int .u8 r.hi.tag,.int .u32 r.hi.to]] w fun e ay=>
   e=.returned (.tuple #[.int .u32 (n+2),.bool true])∧∃g cap w1 z,af (fun k=>k=s) w z∧(∀cs,w.heap[s]?=some (.cells cs 194 (0,0))→z.heap[s]?=some (.cells (cs.setIfInBounds 2 (.int .i64 (u+1))) 194 (0,0)))∧z.grownBy w1 t.ownBlock∧(t.ownBlock=some g∨z.heap.size≤g)∧w1.ownsRow 0 271 9 (.slice (some ⟨g,0,none⟩) (n+1) cap) (n+1) (N++eE (some r))∧ay=w1.setCell ⟨s,0,none⟩ (.slice (some ⟨g,0,none⟩) (n+1) cap):=by
 have E:s<w.heap.size:=aJ ad
 have O:s<w.heap.size+1:=by omega
 have Q:s<w.heap.size+1+1:=by omega
 have T:s<w.heap.size+1+1+1:=by omega
 have z:t.oneCell'=true:=by obtain⟨_,_,rfl,_⟩:=gi J;rfl
 obtain⟨ax,hi,am,av,aw⟩:=info_parts uj
 have D:=aa U
 have X:=aa J
 clear U J
 go_enter Tryz.func137,Tryz.ntmps137
 go_wp2
 go_quiet (fail)
 go_wp2
 go_region_law (refine yY rfl (.tmp 68) (.tmp 70) 192 rfl 0 271 ax _ 9 32 Tryz.underlying192 hi am av aw rfl (by decide) t n N rfl ?_ _ 1 1 (eE (some r)) rfl rfl ?_ ?_ ?_ ?_ (Nat.zero_le _) ?_;exact af.ca (F:=fun k=>k=s) (by(exact up)) (fun k h e=>D.out (e ▸ h)) X.out;exact sl _ _ _ _ (by simp);(intro z W;simp[eE,gm]at W;rcases W with rfl|rfl|rfl|rfl|rfl|rfl|rfl|rfl|rfl<;>rfl);(unfold maxLen;omega);omega;intro z w1 V I al;(obtain⟨g,cap,rfl⟩:=wZ V (by omega));have z:=nU (o:=0) (v:=t) I D.out (by simp[go_sem,h0,E,O,Q,T]);have t:=nV (o:=0) I (by simp;omega) D.out (by simp[go_sem,ah,E,O,Q,T]))
 all_goals go_wp2
 all_goals go_ret2
 all_goals refine⟨?_,g,cap,w1,_,?_,?_,I,al g rfl,V,rfl⟩
 all_goals first|((exact up);done)|(simp;done)|skip
 all_goals(intro cs t;have z:((w.alloc (.cells #[.int .u8 r.ad,.int .u8 r.top,.int .u8 r.J,.int .u8 r.lo.tag,.int .u32 r.lo.to,.int .u8 r.hi.tag,.int .u32 r.hi.to] 134)).drewN nq).heap[s]?=some (.cells cs 194 (0,0)):=(Below.heap_alloc w _ s E).trans t)
 all_goals(have t:=heap_setCell_same _ s 2 _ _ (.int .i64 (u+1)) z;have ab:=bu t;(repeat (first|exact t|refine(Below.heap_alloc _ _ _ (by simp at ab ⊢;omega)).trans ?_|(show(World.alloc _ _).heap[s]?=_))))
theorem xD (s t u:Nat)(r:Rec)(id:Int)(k len cap E:Nat)(J N O Q T U V W X:Value)(z room:Int)(w:World)
  (h0:w.cell? ⟨s,0,none⟩=some (.slice (some ⟨t,0,none⟩) len cap)) (ay:w.cell? ⟨s,1,none⟩=some (.slice (some ⟨u,0,none⟩) (k+1) E))
  (Y:w.cell? ⟨s,2,none⟩=some (.int .i64 z)) (a0:w.cell? ⟨s,3,none⟩=some (.int .i64 room)) (a5:z<room) (be:room≤1048576) (a1:0≤z)
  (a2:w.frozen? ⟨s,1,none⟩=false) (a3:w.frozen? ⟨s,2,none⟩=false) (a9:k<1048576) (a':k+1≤E) (ba:len≤1048576)
  (hid:w.cell? ⟨u,k,none⟩=some (.int .u32 id)) (a6:2≤id) (a7:id≤4294967295) (a8:id-2<(len:Int))
  (g0:w.cell? ⟨t,(id-2).toNat*9,none⟩=some J) (g1:w.cell? ⟨t,(id-2).toNat*9+1,none⟩=some N) (ad:w.cell? ⟨t,(id-2).toNat*9+2,none⟩=some O)
  (ah:w.cell? ⟨t,(id-2).toNat*9+3,none⟩=some Q) (al:w.cell? ⟨t,(id-2).toNat*9+4,none⟩=some T) (am:w.cell? ⟨t,(id-2).toNat*9+5,none⟩=some U)
  (av:w.cell? ⟨t,(id-2).toNat*9+6,none⟩=some V) (aw:w.cell? ⟨t,(id-2).toNat*9+7,none⟩=some W) (ax:w.cell? ⟨t,(id-2).toNat*9+8,none⟩=some X)
  (a4:∀j,w.frozen? ⟨t,j,none⟩=false) (bb:t≠s) (bc:s≠t) (bd:u≠s) :
  Calls Tryz.prog 137 #[.pointer (some ⟨s,0,none⟩),.agg #[.int .u8 r.ad,.int .u8 r.top,.int .u8 r.J,.int .u8 r.lo.tag,.int .u32 r.lo.to,.int .u8 r.hi.tag,.int .u32 r.hi.to]] w fun e ab=>
   e=.returned (.tuple #[.int .u32 id,.bool true])∧∃D I,af (fun k=>k=s) w D∧(∀cs,w.heap[s]?=some (.cells cs 194 (0,0))→D.heap[s]?=some (.cells ((cs.setIfInBounds 2 (.int .i64 (z+1))).setIfInBounds 1 (.slice (some ⟨u,0,none⟩) k E)) 194 (0,0)))∧ab=((fw D t ((id-2).toNat*9) (eE (some r))).alloc I).drew:=by
 have Z:s<w.heap.size:=aJ Y
 have z:t<w.heap.size:=aJ g0
 have z:u<w.heap.size:=aJ hid
 have z:s<w.heap.size+1:=by omega
 have z:t<w.heap.size+1:=by omega
 have t:u<w.heap.size+1:=by omega
 go_enter Tryz.func137,Tryz.ntmps137
 go_wp2
 go_quiet (fail)
 go_wp2
 go_region
 go_wp2
 go_ret2
 refine⟨rfl,?wW,?oO,?pA,?pB,?pC⟩
 case pC=>
  simp only[fw,eE,gm,List.cons_append,List.nil_append];rfl
 case pA=>(exact up)
 case pB=>
  intro cs u;have t:((w.alloc (.cells #[.int .u8 r.ad,.int .u8 r.top,.int .u8 r.J,.int .u8 r.lo.tag,.int .u32 r.lo.to,.int .u8 r.hi.tag,.int .u32 r.hi.to] 134)).drewN nq).heap[s]?=some (.cells cs 194 (0,0)):=(Below.heap_alloc w _ s Z).trans u;exact heap_setCell_same _ s 1 _ _ _ (heap_setCell_same _ s 2 _ _ _ t)
theorem ra {F:Nat→Prop}{w:World}{s:Nat}{cs:List (Option Rec)}{gone:List Int}{J room:Int}(h:dW F w s cs gone J room)(id:Int)(hid:id≤4294967295)(Q:look cs id=none) :
  Calls Tryz.prog 133 #[.pointer (some ⟨s,0,none⟩),.int .u32 id] w fun r T=>
   r=.returned (.tuple #[.agg #[.int .u8 0,.int .u8 0,.int .u8 0,.int .u8 0,.int .u32 0,.int .u8 0,.int .u32 0],.bool false])∧ae w T:=by
 have E:=h.cp
 obtain⟨a,cap,h0,O⟩:=h.cell
 refine tO s id w (fun z u=>?_)
 rcases vl Q with t|⟨t,D⟩|⟨t,D,N⟩
 ·exact rq s id a cs.length cap z hid (u.cell h0) E t
 ·exact ru s id a cs.length cap z t hid (u.cell h0) E D
 ·obtain⟨I,rfl,_,_,J,_⟩:=O (by omega);exact rn s I id cs.length cap z t hid (u.cell h0) E D (u.cell (J _ _ N 7 (by omega)))
theorem re {F:Nat→Prop}{w:World}{t:Nat}{cs:List (Option Rec)}{gone:List Int}{s room:Int}(h:dW F w t cs gone s room)(id:Int)(hid:id≤4294967295)(r:Rec)(N:look cs id=some r) :
  Calls Tryz.prog 133 #[.pointer (some ⟨t,0,none⟩),.int .u32 id] w fun e O=>
   e=.returned (.tuple #[.agg #[.int .u8 r.ad,.int .u8 r.top,.int .u8 r.J,.int .u8 r.lo.tag,.int .u32 r.lo.to,.int .u8 r.hi.tag,.int .u32 r.hi.to],.bool true])∧ae w O:=by
 have J:=h.cp
 obtain⟨a,cap,h0,D⟩:=h.cell
 obtain⟨E,I,z⟩:=cC N
 obtain⟨u,rfl,_,_,s,_⟩:=D (by omega)
 have s:=s _ _ z
 exact tP t u id r w (fun D z=>rp t u id cs.length cap D E hid (z.cell h0) J I (z.cell (s 7 (by omega))))
  (s 0 (by omega)) (s 1 (by omega)) (s 2 (by omega)) (s 3 (by omega)) (s 4 (by omega)) (s 5 (by omega)) (s 6 (by omega))
theorem lr {F:Nat→Prop}{w:World}{s:Nat}{cs:List (Option Rec)}{gone:List Int}{t room:Int}(h:dW F w s cs gone t room)(id:Int)(hid:id≤4294967295) :
  Calls Tryz.prog 133 #[.pointer (some ⟨s,0,none⟩),.int .u32 id] w fun e u=>
   e=.returned (.tuple #[.agg #[.int .u8 (aS (look cs id)).ad,.int .u8 (aS (look cs id)).top,.int .u8 (aS (look cs id)).J,.int .u8 (aS (look cs id)).lo.tag,.int .u32 (aS (look cs id)).lo.to,.int .u8 (aS (look cs id)).hi.tag,.int .u32 (aS (look cs id)).hi.to],.bool (iH (look cs id))])∧ae w u:=by
 cases s:look cs id with
 |none=>exact ra h id hid s
 |some r=>exact re h id hid r s
theorem ri (room:Int)(w:World)(h0:0≤room)(t:room≤1048576) :
  Calls Tryz.prog 116 #[.int .i64 room] w fun e s=>e=.returned (.tuple #[.pointer (some ⟨w.heap.size,0,none⟩),.int .u8 0])∧s=w.alloc (.cells #[.slice none 0 0,.slice none 0 0,.int .i64 0,.int .i64 room] 194):=by
 go_enter Tryz.func116,Tryz.ntmps116
 go_wp2
 go_ret2
 exact⟨rfl,rfl⟩
def dT (gone:List Int)(len:Nat):Int:=match gone.getLast? with|some id=>id|none=>(len:Int)+2
def cV (cs:List (Option Rec))(gone:List Int)(r:Rec):List (Option Rec):=
 match gone.getLast? with|some id=>cs.set (id-2).toNat (some r)|none=>cs++[some r]
theorem yz {cs:List (Option Rec)}{gone:List Int}{r:Rec}:cs.length≤(cV cs gone r).length:=by
 unfold cV;split<;>simp
theorem rk {F:Nat→Prop}{w:World}{s:Nat}{cs:List (Option Rec)}{gone:List Int}{t room:Int}(h:dW F w s cs gone t room)(r:Rec)(z:room≤t) :
  Calls Tryz.prog 137 #[.pointer (some ⟨s,0,none⟩),.agg #[.int .u8 r.ad,.int .u8 r.top,.int .u8 r.J,.int .u8 r.lo.tag,.int .u32 r.lo.to,.int .u8 r.hi.tag,.int .u32 r.hi.to]] w fun e D=>
   e=.returned (.tuple #[.int .u32 0,.bool false])∧ae w D:=by
 obtain⟨⟨D,E,u,_⟩,_⟩:=h
 exact xE s r t room w (by rw[cell_of_row w s 2 _ _ _ u];rfl) (by rw[cell_of_row w s 3 _ _ _ u];rfl) z
theorem rj {F:Nat→Prop}{w:World}{s:Nat}{cs:List (Option Rec)}{gone:List Int}{V room:Int}(h:dW F w s cs gone V room)(r:Rec)(b8:r.ok)(b9:V<room) :
  Calls Tryz.prog 137 #[.pointer (some ⟨s,0,none⟩),.agg #[.int .u8 r.ad,.int .u8 r.top,.int .u8 r.J,.int .u8 r.lo.tag,.int .u32 r.lo.to,.int .u8 r.hi.tag,.int .u32 r.hi.to]] w fun e al=>
   e=.returned (.tuple #[.int .u32 (dT gone cs.length),.bool true])∧af F w al∧dW (aH F w al) al s (cV cs gone r) gone.dropLast (V+1) room:=by
 have cv:=h.cell
 obtain⟨⟨X,cc,z,ad,U,a4,b0⟩,ab,ca,bc,bd,am,be,bh⟩:=h
 have a3:w.cell? ⟨s,0,none⟩=some X:=by rw[cell_of_row w s 0 _ _ _ z];rfl
 have av:w.cell? ⟨s,1,none⟩=some cc:=by rw[cell_of_row w s 1 _ _ _ z];rfl
 have bn:w.cell? ⟨s,2,none⟩=some (.int .i64 V):=by rw[cell_of_row w s 2 _ _ _ z];rfl
 have bt:w.cell? ⟨s,3,none⟩=some (.int .i64 room):=by rw[cell_of_row w s 3 _ _ _ z];rfl
 have ay:∀o,w.frozen? ⟨s,o,none⟩=false:=fun o=>frozen_of_row w s o _ _ z
 have b1:=bu z
 cases b5:gone.getLast? with
 |none=>
  have c2:gone=[]:=by simpa using b5
  subst c2;obtain⟨a2,a0,rfl,_⟩:=gi U
  have b7:X.ownBlock≠some s:=by
   intro e;obtain⟨aw,N⟩:=cU ad e;exact eU N z (by decide) rfl
  simp only[List.length_nil]at bc av;refine(xF s r X cs.length (cs.flatMap eE) V room w a2 a0 a3 av bn bt b9 am bd (ay 0) (ay 2) ad (by omega) b7).mono ?_;rintro e al ⟨rfl,g,cap,w1,Q,I,J,a6,ah,a7,rfl⟩;have J:=J _ z;simp at J;have a5:s<Q.heap.size:=dz b1 I.size;have bw:w1.heap[s]?=some (.cells #[X,.slice a2 0 a0,.int .i64 (V+1),.int .i64 room] 194 (0,0)):=(a6.block s a5 (fun e=>b7 e.symm)).trans J
  have c3:s≠g:=by
   intro e;obtain⟨aw,N⟩:=cU a7 (k:=g) rfl;exact eU bw N (by decide) e
  have a8:af F w w1:=(I.mono (fun k _ e=>by simpa[e]using ab)).c' a6 (fun k t=>.inl (a4 k t));refine⟨by simp[dT],a8.setCell (p:=⟨s,0,none⟩) (.inl ab) _,⟨⟨.slice (some ⟨g,0,none⟩) (cs.length+1) cap,.slice a2 0 a0,?_,?_,?_,?_,?_⟩,?_,?_,?_,?_,am,?_,?_⟩⟩;·exact heap_setCell_same _ s 0 _ _ _ bw
  ·have:=af.ca (F:=fun k=>k=s) (af.setCell (F:=fun k=>k=s) (p:=⟨s,0,none⟩) (af.refl _ w1) (Or.inl rfl) (.slice (some ⟨g,0,none⟩) (cs.length+1) cap)) (fun k t e=>c3 (by simp[Value.ownBlock]at t;omega)) a7;simpa[cV,qR]using this
  ·have:=World.ownsRow_nil (w1.setCell ⟨s,0,none⟩ (.slice (some ⟨g,0,none⟩) (cs.length+1) cap)) 0 50 1;obtain⟨a2,D⟩:=U;refine⟨by simp,?_⟩;rcases D with⟨D,_⟩|⟨Z,Y,bv,D,a',W,ba⟩
   ·exact .inl ⟨by simpa using D,rfl⟩
   ·simp at D;obtain⟨rfl,rfl⟩:=D;have b2:Z≠s:=eU W z (by decide);refine .inr ⟨Z,a0,bv,rfl,a',?_,by simpa using ba⟩;rw[heap_setCell_other _ _ _ _ b2]
    have cD:some Z≠X.ownBlock:=by
     intro e;obtain⟨aw,N⟩:=cU ad e.symm;exact eU W N (by decide) rfl
    rw[a6.block Z (dz (bu W) I.size) cD,I.block Z (bu W) b2];exact W
  ·intro k t;simp[Value.ownBlock]at t;subst t;rcases ah with ah|ah;·exact .inl (a4 _ ah)
   ·refine .inr ⟨dp I.size ah,?_⟩;obtain⟨aw,N⟩:=cU a7 (k:=g) rfl;have:=bu N;rw[aA];exact this
  ·intro k t;exact .inl (b0 k t)
  ·exact .inl ab
  ·simp[cV];omega
  ·simp[cV];omega
  ·omega
  ·intro id hid;simp at hid
  ·intro x u;simp[cV]at u;rcases u with u|rfl;·exact bh x u
   ·exact b8
 |some id=>
  obtain⟨gs,c4⟩:∃gs,gone=gs++[id]:=List.getLast?_eq_some_iff.1 b5;subst c4;obtain⟨c5,c6⟩:=be id (by simp);obtain⟨d6,Y,rfl,c1⟩:=gi U;obtain⟨T,rfl⟩:=c1 (by simp);obtain⟨a,cap,bi,cp⟩:=cv;obtain⟨E,rfl,ax,co,c',cx⟩:=cp (by omega);obtain rfl:X=.slice (some ⟨E,0,none⟩) cs.length cap:=by rw[a3]at bi;simpa using bi
  obtain⟨bv,b4⟩:=cU U (k:=T) rfl;have b3:T≠s:=eU b4 z (by decide);have c8:(gs++[id]).length=gs.length+1:=by simp
  rw[c8]at av U bc
  have c7:w.cell? ⟨T,gs.length,none⟩=some (.int .u32 id):=by
   rw[U.cellAt gs.length (by omega)];simp
  have b6:(id-2).toNat<cs.length:=by omega
  obtain⟨c,X⟩:∃c,cs[(id-2).toNat]?=some c:=⟨_,aQ b6⟩;have da:=c' _ _ X
  have c0:gs.length+1≤Y:=by
   rcases U.2 with⟨q,_⟩|⟨_,_,_,q,_,_,ba,_⟩
   ·simp at q
   ·simp at q;omega
  have O:∀j,j<9→∃x,w.cell? ⟨E,(id-2).toNat*9+j,none⟩=some x:=fun j X=>by
   rw[da j X];exact⟨_,aQ (by rw[lB];exact X)⟩
  obtain⟨dl,g0⟩:=O 0 (by omega);obtain⟨ds,g1⟩:=O 1 (by omega);obtain⟨dB,cd⟩:=O 2 (by omega);obtain⟨d0,ce⟩:=O 3 (by omega);obtain⟨d1,cf⟩:=O 4 (by omega);obtain⟨d2,ch⟩:=O 5 (by omega);obtain⟨d3,ci⟩:=O 6 (by omega);obtain⟨d5,cj⟩:=O 7 (by omega);obtain⟨ah,X⟩:=O 8 (by omega);refine(xD s E T r id gs.length cs.length cap Y dl ds dB d0 d1 d2 d3 d5 ah V room w a3 av bn bt b9 am bd (ay 1) (ay 2) (by omega) c0 ca c7 c5 (by omega) c6 g0 g1 cd ce cf ch ci cj X cx ax ax.symm b3).mono ?_;rintro e al ⟨rfl,Q,a1,I,J,rfl⟩;have J:=J _ z;simp at J;have bb:=mH E (eE (some r)) ((id-2).toNat*9) Q;have cl:=I.ca (fun k t e=>ax (by simp[Value.ownBlock]at t;omega)) ad;have cn:=mG eE lB rfl cl (id-2).toNat b6 (some r);have a5:s<Q.heap.size:=dz b1 I.size;have a8:af F w (fw Q E ((id-2).toNat*9) (eE (some r))):=(I.mono (fun k _ e=>by simpa[e]using ab)).bd (bb.mono (fun k _ e=>by simpa[e]using co));have a9:ae (fw Q E ((id-2).toNat*9) (eE (some r))) (((fw Q E ((id-2).toNat*9) (eE (some r))).alloc a1).drew):=((ae.refl _).alloc a1).drew;have cB:Q.ownsRow 0 50 1 (.slice (some ⟨T,0,none⟩) (gs.length+1) Y) (gs.length+1) ((gs++[id]).map (Value.int .u32)):=I.ca (fun k t e=>b3 (by simp[Value.ownBlock]at t;omega)) U
  have cy:T≠E:=by
   obtain⟨aw,N⟩:=cU ad (k:=E) rfl;exact eU b4 N (by decide)
  have cz:=bb.ca (fun k t e=>cy (by simp[Value.ownBlock]at t;omega)) cB;refine⟨by simp[dT],(a8.alloc a1).drew,⟨⟨.slice (some ⟨E,0,none⟩) cs.length cap,.slice (some ⟨T,0,none⟩) gs.length Y,?_,?_,?_,?_,?_⟩,?_,?_,?_,?_,am,?_,?_⟩⟩;·exact a9.heap ((bb.block s a5 (fun e=>ax e.symm)).trans J)
  ·have:=a9.ca cn;simpa[cV]using this
  ·have q:=a9.ca cz;refine⟨by simp,?_⟩;rcases q.2 with⟨D,_⟩|⟨Z,s,cb,D,a',W,ba,db,dj,dk⟩
   ·simp at D
   ·simp at D;obtain⟨rfl,rfl⟩:=D;refine .inr ⟨T,Y,cb,by simp,a',W,by simp;omega,db,dj,?_⟩;have:=congrArg (List.take gs.length) dk;rw[List.take_take]at this;simpa[Nat.min_eq_left]using this
  ·intro k t;exact .inl (a4 k t)
  ·intro k t;exact .inl (b0 k (by simpa[Value.ownBlock]using t))
  ·exact .inl ab
  ·simp[cV];omega
  ·simp[cV];omega
  ·omega
  ·intro x u;simp at u;have:=be x (by simp[u]);simpa[cV]using this
  ·intro x u;simp[cV]at u;rcases List.mem_or_eq_of_mem_set u with u|u;·exact bh x u
   ·simp at u;rw[u];exact b8
end Go.Proofs.YtafkamlhimkbmaaGreat
