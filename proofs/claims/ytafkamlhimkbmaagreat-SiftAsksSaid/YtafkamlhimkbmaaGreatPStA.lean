/-
  Walks of package node: IsForm, may, Chained, Plain, Right, mix, Hash.
-/
import Derived.Test.YtafkamlhimkbmaaGreatPForeA
import Derived.Test.YtafkamlhimkbmaaGreatChecked
import Derived.KernelRfl
import Derived.WalkLawsBesides
import Derived.WalkSpells
import Derived.Deep.RegionHeld3
import Derived.Deep.QuietTactic
import Derived.StillTailTactics
import Derived.Deep.DeepCutAuto
import Derived.Sort.AssemblyPlain
namespace Go.Proofs.YtafkamlhimkbmaaGreat
set_option maxRecDepth 1000000
set_option maxHeartbeats 8000000
set_option linter.unusedSimpArgs false
set_option linter.unusedVariables false
open Go.RowKit
theorem jg (f:Int)(w:World) :
  Calls Tryz.prog 100 #[.int .u8 f] w fun e w'=>e=.returned (.bool (aR f))∧w=w':=by
 by_cases j:1≤f<;>by_cases q:f≤5
 all_goals
  go_enter Tryz.func100,Tryz.ntmps100
  go_wp2
  go_ret
  simp[aR,j,q]
theorem my (n:Int)(w:World) :
  Calls Tryz.prog 201 #[.int .i64 n] w fun e w'=>e=.returned (.bool (fQ n))∧w=w':=by
 by_cases j:0≤n<;>by_cases q:n≤16
 all_goals
  go_enter Tryz.func201,Tryz.ntmps201
  go_wp2
  go_ret
  simp[fQ,j,q]
theorem wN (f:Int)(w:World) :
  Calls Tryz.prog 202 #[.int .u8 f] w fun e w'=>e=.returned (.bool (fN f))∧w=w':=by
 by_cases j:f=3
 ·subst j;go_enter Tryz.func202,Tryz.ntmps202;go_wp2;go_ret;simp[fN]
 ·go_enter Tryz.func202,Tryz.ntmps202;go_wp2;go_ret;simp[fN]
theorem mJ (f j a l n:Int)(w:World)(q:0≤j)(s:j≤255) :
  Calls Tryz.prog 199 #[.int .u8 f,.agg #[.int .u8 j,.int .u32 a],.int .i64 l,.int .i64 n] w fun r w'=>r=.returned (.bool (dE f ⟨j,a⟩ l n))∧ae w w':=by
 go_enter Tryz.func199,Tryz.ntmps199
 go_wp2_with (first|(go_at_call 100;refine(jg _ _).mono ?_;rintro e w' ⟨rfl,rfl⟩)|(go_at_call 201;refine(my _ _).mono ?_;rintro e w' ⟨rfl,rfl⟩)|fail)
 all_goals(go_ret;refine⟨?_,(ae.refl _).alloc _⟩)
 all_goals simp_all [dE]
 all_goals(try omega)
def mz (h p:Int):Int:=
 bits BinOp.xor IntKind.u64 (IntKind.u64.wrap (bits BinOp.xor IntKind.u64 h p*11400714819323198485))
  (IntKind.u64.wrap (bits BinOp.xor IntKind.u64 h p*11400714819323198485) / 536870912)
theorem zM (h p:Int)(w:World) :
  Calls Tryz.prog 293 #[.int .u64 h,.int .u64 p] w fun r w'=>r=.returned (.int .u64 (mz h p))∧w=w':=by
 go_enter Tryz.func293,Tryz.ntmps293
 go_wp2
 go_ret
 exact⟨rfl,rfl⟩
def oC (r:Rec):Int:=
 mz (mz (mz 1 (bits BinOp.or IntKind.u64 (bits BinOp.or IntKind.u64 (r.al*281474976710656) (r.I*1099511627776)) (r.J*4294967296)))
  (bits BinOp.or IntKind.u64 (r.lo.tag*4294967296) r.lo.to)) (bits BinOp.or IntKind.u64 (r.hi.tag*4294967296) r.hi.to)
theorem yj (r:Rec)(j:r.ok)(w:World) :
  Calls Tryz.prog 292 #[.agg #[.int .u8 r.al,.int .u8 r.I,.int .u8 r.J,.int .u8 r.lo.tag,.int .u32 r.lo.to,.int .u8 r.hi.tag,.int .u32 r.hi.to]] w fun e w'=>e=.returned (.int .u64 (oC r))∧ae w w':=by
 obtain⟨f,z,b,⟨lt,t⟩,⟨s,q⟩⟩:=r
 obtain⟨⟨t,z⟩,⟨S,T⟩,⟨q,s⟩,⟨⟨N,O⟩,J,L⟩,⟨E,I⟩,A,B⟩:=j
 dsimp only at *
 go_enter Tryz.func292,Tryz.ntmps292
 go_wp2_with (go_at_call 293;refine(zM _ _ _).mono ?_;rintro e w' ⟨rfl,rfl⟩)
 go_ret
 exact⟨rfl,((ae.refl _).alloc _).alloc _⟩
theorem BO (r:Rec)(s:r.ok)(n:Int)(w:World) :
  Calls Tryz.prog 136 #[.agg #[.int .u8 r.al,.int .u8 r.I,.int .u8 r.J,.int .u8 r.lo.tag,.int .u32 r.lo.to,.int .u8 r.hi.tag,.int .u32 r.hi.to],.int .i64 n] w fun e w'=>e=.returned (.bool (fT r n))∧ae w w':=by
 obtain⟨f,E,b,⟨lt,B⟩,⟨A,z⟩⟩:=r
 obtain⟨⟨B,E⟩,⟨W,X⟩,⟨z,A⟩,⟨⟨T,U⟩,O,S⟩,⟨L,N⟩,I,J⟩:=s
 dsimp only at *
 go_enter Tryz.func136,Tryz.ntmps136
 go_wp2
 go_quiet (fail)
 go_wp2_with (first|(go_at_call 100;refine(jg _ _).mono ?_;rintro e w' ⟨rfl,rfl⟩)|(go_at_call 201;refine(my _ _).mono ?_;rintro e w' ⟨rfl,rfl⟩)|(go_at_call 202;refine(wN _ _).mono ?_;rintro e w' ⟨rfl,rfl⟩)|(go_at_call 199;refine(mJ _ _ _ _ _ _ (by omega) (by omega)).mono ?_;rintro e w1 ⟨rfl,j⟩;have q:ae w w1:=kp;obtain⟨s,z⟩:=j.cells;obtain⟨s,z⟩:=q.cells;have t:=j.size;(try simp only[ai,World.cx,World.a5,au]at t);have j:=q.size;have j:w.heap.size<w1.heap.size:=(by omega))|fail)
 all_goals(go_ret;refine⟨?_,kp⟩)
 all_goals simp_all [fT]
theorem vq (j:Nat)(id:Int)(cs:Option Addr)(len cap:Nat)(w:World)(q:id≤4294967295)
  (s:w.cell? ⟨j,0,none⟩=some (.slice cs len cap)) (t:len≤1048576) (h:id<2) :
  Calls Tryz.prog 198 #[.pointer (some ⟨j,0,none⟩),.int .u32 id] w fun r w'=>r=.returned (.pointer none)∧w=w':=by
 go_enter Tryz.func198,Tryz.ntmps198
 go_wp2
 go_ret
 exact⟨rfl,rfl⟩
theorem vt (j:Nat)(id:Int)(cs:Option Addr)(len cap:Nat)(w:World)(q:2≤id)(s:id≤4294967295)
  (t:w.cell? ⟨j,0,none⟩=some (.slice cs len cap)) (z:len≤1048576) (h:(len:Int)≤id-2) :
  Calls Tryz.prog 198 #[.pointer (some ⟨j,0,none⟩),.int .u32 id] w fun r w'=>r=.returned (.pointer none)∧w=w':=by
 go_enter Tryz.func198,Tryz.ntmps198
 go_wp2
 go_ret
 exact⟨rfl,rfl⟩
theorem vo (j q:Nat)(id:Int)(len cap:Nat)(w:World)(s:2≤id)(t:id≤4294967295)
  (z:w.cell? ⟨j,0,none⟩=some (.slice (some ⟨q,0,none⟩) len cap)) (B:len≤1048576) (h:id-2<(len:Int))
  (A:w.cell? ⟨q,(id-2).toNat*9+7,none⟩=some (.bool false)) :
  Calls Tryz.prog 198 #[.pointer (some ⟨j,0,none⟩),.int .u32 id] w fun r w'=>r=.returned (.pointer none)∧w=w':=by
 go_enter Tryz.func198,Tryz.ntmps198
 go_wp2
 go_ret
 exact⟨rfl,rfl⟩
theorem qj (q j:Nat)(id:Int)(len cap:Nat)(w:World)(s:2≤id)(t:id≤4294967295)
  (z:w.cell? ⟨q,0,none⟩=some (.slice (some ⟨j,0,none⟩) len cap)) (B:len≤1048576) (h:id-2<(len:Int))
  (A:w.cell? ⟨j,(id-2).toNat*9+7,none⟩=some (.bool true)) :
  Calls Tryz.prog 198 #[.pointer (some ⟨q,0,none⟩),.int .u32 id] w fun r w'=>r=.returned (.pointer (some ⟨j,(id-2).toNat*9,none⟩))∧w=w':=by
 go_enter Tryz.func198,Tryz.ntmps198
 go_wp2
 go_ret
 exact⟨rfl,rfl⟩
theorem xV (q:Nat)(id:Int)(w:World)
  (s:∀j,ae w j→Calls Tryz.prog 198 #[.pointer (some ⟨q,0,none⟩),.int .u32 id] j fun r w'=>r=.returned (.pointer none)∧j=w') :
  Calls Tryz.prog 133 #[.pointer (some ⟨q,0,none⟩),.int .u32 id] w fun r w'=>
   r=.returned (.tuple #[.agg #[.int .u8 0,.int .u8 0,.int .u8 0,.int .u8 0,.int .u32 0,.int .u8 0,.int .u32 0],.bool false])∧ae w w':=by
 have H:=aa s
 clear s
 go_enter Tryz.func133,Tryz.ntmps133
 go_wp2_with (first|(refine(H.out _ kp).mono ?_;rintro e w' ⟨rfl,rfl⟩)|fail)
 refine aq (v:=.tuple #[.agg #[.int .u8 0,.int .u8 0,.int .u8 0,.int .u8 0,.int .u32 0,.int .u8 0,.int .u32 0],.bool false]) (by simp[results,Tryz.results133,go_sem]) rfl ⟨rfl,kp⟩
theorem xW (s j:Nat)(id:Int)(r:Rec)(w:World)
  (t:∀q,ae w q→Calls Tryz.prog 198 #[.pointer (some ⟨s,0,none⟩),.int .u32 id] q fun r w'=>r=.returned (.pointer (some ⟨j,(id-2).toNat*9,none⟩))∧q=w')
  (z:w.cell? ⟨j,(id-2).toNat*9,none⟩=some (.int .u8 r.al)) (B:w.cell? ⟨j,(id-2).toNat*9+1,none⟩=some (.int .u8 r.I))
  (E:w.cell? ⟨j,(id-2).toNat*9+2,none⟩=some (.int .u8 r.J)) (I:w.cell? ⟨j,(id-2).toNat*9+3,none⟩=some (.int .u8 r.lo.tag))
  (J:w.cell? ⟨j,(id-2).toNat*9+4,none⟩=some (.int .u32 r.lo.to)) (L:w.cell? ⟨j,(id-2).toNat*9+5,none⟩=some (.int .u8 r.hi.tag))
  (N:w.cell? ⟨j,(id-2).toNat*9+6,none⟩=some (.int .u32 r.hi.to)) :
  Calls Tryz.prog 133 #[.pointer (some ⟨s,0,none⟩),.int .u32 id] w fun e w'=>
   e=.returned (.tuple #[.agg #[.int .u8 r.al,.int .u8 r.I,.int .u8 r.J,.int .u8 r.lo.tag,.int .u32 r.lo.to,.int .u8 r.hi.tag,.int .u32 r.hi.to],.bool true])∧ae w w':=by
 have H:=aa t
 clear t
 have A:=aB z
 dsimp only at A
 have q:j≠w.heap.size:=by omega
 go_enter Tryz.func133,Tryz.ntmps133
 go_wp2_with (first|(refine(H.out _ kp).mono ?_;rintro e w' ⟨rfl,rfl⟩)|fail)
 go_outline
 refine aq (v:=.tuple #[.agg #[.int .u8 r.al,.int .u8 r.I,.int .u8 r.J,.int .u8 r.lo.tag,.int .u32 r.lo.to,.int .u8 r.hi.tag,.int .u32 r.hi.to],.bool true]) (by simp[results,Tryz.results133,go_sem]) rfl ⟨rfl,kp⟩
theorem AT (j:Nat)(r:Rec)(q room:Int)(w:World) 
  (s:w.cell? ⟨j,2,none⟩=some (.int .i64 q)) (t:w.cell? ⟨j,3,none⟩=some (.int .i64 room)) (z:room≤q) :
  Calls Tryz.prog 137 #[.pointer (some ⟨j,0,none⟩),.agg #[.int .u8 r.al,.int .u8 r.I,.int .u8 r.J,.int .u8 r.lo.tag,.int .u32 r.lo.to,.int .u8 r.hi.tag,.int .u32 r.hi.to]] w fun e w'=>
   e=.returned (.tuple #[.int .u32 0,.bool false])∧ae w w':=by
 have q:j<w.heap.size:=aB s
 go_enter Tryz.func137,Tryz.ntmps137
 go_wp2
 go_quiet (fail)
 go_wp2
 go_ret2
 exact⟨rfl,kp⟩
theorem yC:(Tryz.prog.info? 271).map (fun i=>(i.zero,i.size,i.bytes))=some (some (.agg #[.int .u8 0,.int .u8 0,.int .u8 0,.int .u8 0,.int .u32 0,.int .u8 0,.int .u32 0,.bool false,.int .i64 0]),9,32):=by kernel_rfl
theorem AU (j:Nat)(r:Rec)(q:Value)(n:Nat)(xs:List Value)(s room:Int)(w:World)(U:Option Addr)(W:Nat)
  (Y:w.cell? ⟨j,0,none⟩=some q) (a0:w.cell? ⟨j,1,none⟩=some (.slice U 0 W))
  (Z:w.cell? ⟨j,2,none⟩=some (.int .i64 s)) (a1:w.cell? ⟨j,3,none⟩=some (.int .i64 room)) (a5:s<room) (a7:room≤1048576) (a3:0≤s)
  (ab:w.frozen? ⟨j,0,none⟩=false) (a4:w.frozen? ⟨j,2,none⟩=false)
  (E:w.ownsRow 0 271 9 q n xs) (a6:n<1048576) (N:q.ownBlock≠some j) :
  Calls Tryz.prog 137 #[.pointer (some ⟨j,0,none⟩),.agg #[.int .u8 r.al,.int .u8 r.I,.int .u8 r.J,.int .u8 r.lo.tag,.int .u32 r.lo.to,.int .u8 r.hi.tag,.int .u32 r.hi.to]] w fun e w'=>
   e=.returned (.tuple #[.int .u32 (n+2),.bool true])∧∃g cap w1 t,af (fun k=>k=j) w t∧(∀cs,w.heap[j]?=some (.cells cs 194 (0,0))→t.heap[j]?=some (.cells (cs.setIfInBounds 2 (.int .i64 (s+1))) 194 (0,0)))∧t.grownBy w1 q.ownBlock∧(q.ownBlock=some g∨t.heap.size≤g)∧w1.ownsRow 0 271 9 (.slice (some ⟨g,0,none⟩) (n+1) cap) (n+1) (xs++cX (some r))∧w'=w1.setCell ⟨j,0,none⟩ (.slice (some ⟨g,0,none⟩) (n+1) cap):=by
 have A:j<w.heap.size:=aB Z
 have I:j<w.heap.size+1:=by omega
 have J:j<w.heap.size+1+1:=by omega
 have L:j<w.heap.size+1+1+1:=by omega
 have t:q.oneCell'=true:=by obtain⟨_,_,rfl,_⟩:=dv E;rfl
 obtain⟨aw,hi,al,am,av⟩:=info_parts yC
 have z:=aa N
 have T:=aa E
 clear N E
 go_enter Tryz.func137,Tryz.ntmps137
 go_wp2
 go_quiet (fail)
 go_wp2
 go_region_law (refine pG rfl (.tmp 68) (.tmp 70) 192 rfl 0 271 aw _ 9 32 Tryz.underlying192 hi al am av rfl (by decide) q n xs rfl ?_ _ 1 1 (cX (some r)) rfl rfl ?_ ?_ ?_ ?_ (Nat.zero_le _) ?_;exact af.bp (F:=fun k=>k=j) (by(exact up)) (fun k h e=>z.out (e ▸ h)) T.out;exact lZ _ _ _ _ (by simp);(intro u S;simp[cX,df]at S;rcases S with rfl|rfl|rfl|rfl|rfl|rfl|rfl|rfl|rfl<;>rfl);(unfold maxLen;omega);omega;intro t w1 O B ad;(obtain⟨g,cap,rfl⟩:=mF O (by omega));have t:=jd (o:=0) (v:=q) B z.out (by simp[go_sem,Y,A,I,J,L]);have q:=lh (o:=0) B (by simp;omega) z.out (by simp[go_sem,ab,A,I,J,L]))
 all_goals go_wp2
 all_goals go_ret2
 all_goals refine⟨?_,g,cap,w1,_,?_,?_,B,ad g rfl,O,rfl⟩
 all_goals first|((exact up);done)|(simp;done)|skip
 all_goals(intro cs q;have t:((w.alloc (.cells #[.int .u8 r.al,.int .u8 r.I,.int .u8 r.J,.int .u8 r.lo.tag,.int .u32 r.lo.to,.int .u8 r.hi.tag,.int .u32 r.hi.to] 134)).drewN nq).heap[j]?=some (.cells cs 194 (0,0)):=(Below.heap_alloc w _ j A).trans q)
 all_goals(have q:=heap_setCell_same _ j 2 _ _ (.int .i64 (s+1)) t;have X:=aM q;(repeat (first|exact q|refine(Below.heap_alloc _ _ _ (by simp at X ⊢;omega)).trans ?_|(show(World.alloc _ _).heap[j]?=_))))
theorem AS (j q s:Nat)(r:Rec)(id:Int)(k len cap A:Nat)(E I J L N O S T U:Value)(t room:Int)(w:World)
  (a3:w.cell? ⟨j,0,none⟩=some (.slice (some ⟨q,0,none⟩) len cap)) (a4:w.cell? ⟨j,1,none⟩=some (.slice (some ⟨s,0,none⟩) (k+1) A))
  (X:w.cell? ⟨j,2,none⟩=some (.int .i64 t)) (a5:w.cell? ⟨j,3,none⟩=some (.int .i64 room)) (bb:t<room) (bs:room≤1048576) (a6:0≤t)
  (a7:w.frozen? ⟨j,1,none⟩=false) (a8:w.frozen? ⟨j,2,none⟩=false) (bg:k<1048576) (bi:k+1≤A) (bn:len≤1048576)
  (hid:w.cell? ⟨s,k,none⟩=some (.int .u32 id)) (bd:2≤id) (be:id≤4294967295) (bf:id-2<(len:Int))
  (W:w.cell? ⟨q,(id-2).toNat*9,none⟩=some E) (ab:w.cell? ⟨q,(id-2).toNat*9+1,none⟩=some I) (ad:w.cell? ⟨q,(id-2).toNat*9+2,none⟩=some J)
  (al:w.cell? ⟨q,(id-2).toNat*9+3,none⟩=some L) (am:w.cell? ⟨q,(id-2).toNat*9+4,none⟩=some N) (av:w.cell? ⟨q,(id-2).toNat*9+5,none⟩=some O)
  (aw:w.cell? ⟨q,(id-2).toNat*9+6,none⟩=some S) (a0:w.cell? ⟨q,(id-2).toNat*9+7,none⟩=some T) (a1:w.cell? ⟨q,(id-2).toNat*9+8,none⟩=some U)
  (a':∀Z,w.frozen? ⟨q,Z,none⟩=false) (bp:q≠j) (bq:j≠q) (br:s≠j) :
  Calls Tryz.prog 137 #[.pointer (some ⟨j,0,none⟩),.agg #[.int .u8 r.al,.int .u8 r.I,.int .u8 r.J,.int .u8 r.lo.tag,.int .u32 r.lo.to,.int .u8 r.hi.tag,.int .u32 r.hi.to]] w fun e w'=>
   e=.returned (.tuple #[.int .u32 id,.bool true])∧∃z B,af (fun k=>k=j) w z∧(∀cs,w.heap[j]?=some (.cells cs 194 (0,0))→z.heap[j]?=some (.cells ((cs.setIfInBounds 2 (.int .i64 (t+1))).setIfInBounds 1 (.slice (some ⟨s,0,none⟩) k A)) 194 (0,0)))∧w'=((dO z q ((id-2).toNat*9) (cX (some r))).alloc B).drew:=by
 have Y:j<w.heap.size:=aB X
 have t:q<w.heap.size:=aB W
 have t:s<w.heap.size:=aB hid
 have t:j<w.heap.size+1:=by omega
 have t:q<w.heap.size+1:=by omega
 have q:s<w.heap.size+1:=by omega
 go_enter Tryz.func137,Tryz.ntmps137
 go_wp2
 go_quiet (fail)
 go_wp2
 go_region
 go_wp2
 go_ret2
 refine⟨rfl,?wW,?oO,?pA,?pB,?pC⟩
 case pC=>
  simp only[dO,cX,df,List.cons_append,List.nil_append];rfl
 case pA=>(exact up)
 case pB=>
  intro cs s;have q:((w.alloc (.cells #[.int .u8 r.al,.int .u8 r.I,.int .u8 r.J,.int .u8 r.lo.tag,.int .u32 r.lo.to,.int .u8 r.hi.tag,.int .u32 r.hi.to] 134)).drewN nq).heap[j]?=some (.cells cs 194 (0,0)):=(Below.heap_alloc w _ j Y).trans s;exact heap_setCell_same _ j 1 _ _ _ (heap_setCell_same _ j 2 _ _ _ q)
theorem uW {F:Nat→Prop}{w:World}{j:Nat}{cs:List (Option Rec)}{gone:List Int}{I room:Int}(h:dy F w j cs gone I room)(id:Int)(hid:id≤4294967295)(N:look cs id=none) :
  Calls Tryz.prog 133 #[.pointer (some ⟨j,0,none⟩),.int .u32 id] w fun r w'=>
   r=.returned (.tuple #[.agg #[.int .u8 0,.int .u8 0,.int .u8 0,.int .u8 0,.int .u32 0,.int .u8 0,.int .u32 0],.bool false])∧ae w w':=by
 have B:=h.bx
 obtain⟨a,cap,z,L⟩:=h.cell
 refine xV j id w (fun t s=>?_)
 rcases zr N with q|⟨q,A⟩|⟨q,A,J⟩
 ·exact vq j id a cs.length cap t hid (s.cell z) B q
 ·exact vt j id a cs.length cap t q hid (s.cell z) B A
 ·obtain⟨E,rfl,_,_,I,_⟩:=L (by omega);exact vo j E id cs.length cap t q hid (s.cell z) B A (s.cell (I _ _ J 7 (by omega)))
theorem qh {F:Nat→Prop}{w:World}{q:Nat}{cs:List (Option Rec)}{gone:List Int}{j room:Int}(h:dy F w q cs gone j room)(id:Int)(hid:id≤4294967295)(r:Rec)(J:look cs id=some r) :
  Calls Tryz.prog 133 #[.pointer (some ⟨q,0,none⟩),.int .u32 id] w fun e w'=>
   e=.returned (.tuple #[.agg #[.int .u8 r.al,.int .u8 r.I,.int .u8 r.J,.int .u8 r.lo.tag,.int .u32 r.lo.to,.int .u8 r.hi.tag,.int .u32 r.hi.to],.bool true])∧ae w w':=by
 have I:=h.bx
 obtain⟨a,cap,A,z⟩:=h.cell
 obtain⟨B,E,t⟩:=ck J
 obtain⟨s,rfl,_,_,j,_⟩:=z (by omega)
 have j:=j _ _ t
 exact xW q s id r w (fun z t=>qj q s id cs.length cap z B hid (t.cell A) I E (t.cell (j 7 (by omega))))
  (j 0 (by omega)) (j 1 (by omega)) (j 2 (by omega)) (j 3 (by omega)) (j 4 (by omega)) (j 5 (by omega)) (j 6 (by omega))
theorem nN {F:Nat→Prop}{w:World}{j:Nat}{cs:List (Option Rec)}{gone:List Int}{q room:Int}(h:dy F w j cs gone q room)(id:Int)(hid:id≤4294967295) :
  Calls Tryz.prog 133 #[.pointer (some ⟨j,0,none⟩),.int .u32 id] w fun e w'=>
   e=.returned (.tuple #[.agg #[.int .u8 (aA (look cs id)).al,.int .u8 (aA (look cs id)).I,.int .u8 (aA (look cs id)).J,.int .u8 (aA (look cs id)).lo.tag,.int .u32 (aA (look cs id)).lo.to,.int .u8 (aA (look cs id)).hi.tag,.int .u32 (aA (look cs id)).hi.to],.bool (jy (look cs id))])∧ae w w':=by
 cases j:look cs id with
 |none=>exact uW h id hid j
 |some r=>exact qh h id hid r j
theorem uY {F:Nat→Prop}{w:World}{j:Nat}{cs:List (Option Rec)}{gone:List Int}{q room:Int}(h:dy F w j cs gone q room) :
  Calls Tryz.prog 65 #[.pointer (some ⟨j,0,none⟩)] w fun e w'=>e=.returned (.int .i64 q)∧w=w':=by
 obtain⟨⟨q,z,s,_⟩,_⟩:=h
 have t:=cell_of_row w j 2 _ _ _ s
 simp at t
 clear s
 go_enter Tryz.func65,Tryz.ntmps65
 go_wp2
 go_ret
 exact⟨rfl,rfl⟩
theorem ve {F:Nat→Prop}{w:World}{j:Nat}{cs:List (Option Rec)}{gone:List Int}{s room:Int}(h:dy F w j cs gone s room) :
  Calls Tryz.prog 145 #[.pointer (some ⟨j,0,none⟩)] w fun e w'=>e=.returned (.int .i64 room)∧w=w':=by
 obtain⟨⟨s,z,q,_⟩,_⟩:=h
 have t:=cell_of_row w j 3 _ _ _ q
 simp at t
 clear q
 go_enter Tryz.func145,Tryz.ntmps145
 go_wp2
 go_ret
 exact⟨rfl,rfl⟩
theorem uZ (room:Int)(w:World)(j:0≤room)(q:room≤1048576) :
  Calls Tryz.prog 116 #[.int .i64 room] w fun e w'=>e=.returned (.tuple #[.pointer (some ⟨w.heap.size,0,none⟩),.int .u8 0])∧w'=w.alloc (.cells #[.slice none 0 0,.slice none 0 0,.int .i64 0,.int .i64 room] 194):=by
 go_enter Tryz.func116,Tryz.ntmps116
 go_wp2
 go_ret2
 exact⟨rfl,rfl⟩
def cQ (gone:List Int)(len:Nat):Int:=match gone.getLast? with|some id=>id|none=>(len:Int)+2
def dn (cs:List (Option Rec))(gone:List Int)(r:Rec):List (Option Rec):=
 match gone.getLast? with|some id=>cs.set (id-2).toNat (some r)|none=>cs++[some r]
theorem Cs {cs:List (Option Rec)}{gone:List Int}{r:Rec}:cs.length≤(dn cs gone r).length:=by
 unfold dn;split<;>simp
theorem vd {F:Nat→Prop}{w:World}{j:Nat}{cs:List (Option Rec)}{gone:List Int}{q room:Int}(h:dy F w j cs gone q room)(r:Rec)(t:room≤q) :
  Calls Tryz.prog 137 #[.pointer (some ⟨j,0,none⟩),.agg #[.int .u8 r.al,.int .u8 r.I,.int .u8 r.J,.int .u8 r.lo.tag,.int .u32 r.lo.to,.int .u8 r.hi.tag,.int .u32 r.hi.to]] w fun e w'=>
   e=.returned (.tuple #[.int .u32 0,.bool false])∧ae w w':=by
 obtain⟨⟨z,A,s,_⟩,_⟩:=h
 exact AT j r q room w (by rw[cell_of_row w j 2 _ _ _ s];rfl) (by rw[cell_of_row w j 3 _ _ _ s];rfl) t
theorem u' {F:Nat→Prop}{w:World}{j:Nat}{cs:List (Option Rec)}{gone:List Int}{S room:Int}(h:dy F w j cs gone S room)(r:Rec)(b5:r.ok)(b6:S<room) :
  Calls Tryz.prog 137 #[.pointer (some ⟨j,0,none⟩),.agg #[.int .u8 r.al,.int .u8 r.I,.int .u8 r.J,.int .u8 r.lo.tag,.int .u32 r.lo.to,.int .u8 r.hi.tag,.int .u32 r.hi.to]] w fun e w'=>
   e=.returned (.tuple #[.int .u32 (cQ gone cs.length),.bool true])∧af F w w'∧dy (aC F w w') w' j (dn cs gone r) gone.dropLast (S+1) room:=by
 have co:=h.cell
 obtain⟨⟨U,b9,t,Y,O,a5,bw⟩,a2,b7,bg,bi,ad,bn,bp⟩:=h
 have a4:w.cell? ⟨j,0,none⟩=some U:=by rw[cell_of_row w j 0 _ _ _ t];rfl
 have al:w.cell? ⟨j,1,none⟩=some b9:=by rw[cell_of_row w j 1 _ _ _ t];rfl
 have br:w.cell? ⟨j,2,none⟩=some (.int .i64 S):=by rw[cell_of_row w j 2 _ _ _ t];rfl
 have bs:w.cell? ⟨j,3,none⟩=some (.int .i64 room):=by rw[cell_of_row w j 3 _ _ _ t];rfl
 have aw:∀o,w.frozen? ⟨j,o,none⟩=false:=fun o=>frozen_of_row w j o _ _ t
 have bx:=aM t
 cases b2:gone.getLast? with
 |none=>
  have c0:gone=[]:=by simpa using b2
  subst c0;obtain⟨a3,a0,rfl,_⟩:=dv O
  have b4:U.ownBlock≠some j:=by
   intro e;obtain⟨am,I⟩:=bF Y e;exact de I t (by decide) rfl
  simp only[List.length_nil]at bg al;refine(AU j r U cs.length (cs.flatMap cX) S room w a3 a0 a4 al br bs b6 ad bi (aw 0) (aw 2) Y (by omega) b4).mono ?_;rintro e w' ⟨rfl,g,cap,w1,L,B,E,a7,Z,a8,rfl⟩;have E:=E _ t;simp at E;have a6:j<L.heap.size:=bI bx B.size;have bv:w1.heap[j]?=some (.cells #[U,.slice a3 0 a0,.int .i64 (S+1),.int .i64 room] 194 (0,0)):=(a7.block j a6 (fun e=>b4 e.symm)).trans E
  have c1:j≠g:=by
   intro e;obtain⟨am,I⟩:=bF a8 (k:=g) rfl;exact de bv I (by decide) e
  have a':af F w w1:=(B.mono (fun k _ e=>by simpa[e]using a2)).b8 a7 (fun k q=>.inl (a5 k q));refine⟨by simp[cQ],a'.setCell (p:=⟨j,0,none⟩) (.inl a2) _,⟨⟨.slice (some ⟨g,0,none⟩) (cs.length+1) cap,.slice a3 0 a0,?_,?_,?_,?_,?_⟩,?_,?_,?_,?_,ad,?_,?_⟩⟩;·exact heap_setCell_same _ j 0 _ _ _ bv
  ·have:=af.bp (F:=fun k=>k=j) (af.setCell (F:=fun k=>k=j) (p:=⟨j,0,none⟩) (af.refl _ w1) (Or.inl rfl) (.slice (some ⟨g,0,none⟩) (cs.length+1) cap)) (fun k q e=>c1 (by simp[Value.ownBlock]at q;omega)) a8;simpa[dn,jV]using this
  ·have:=World.ownsRow_nil (w1.setCell ⟨j,0,none⟩ (.slice (some ⟨g,0,none⟩) (cs.length+1) cap)) 0 50 1;obtain⟨a3,z⟩:=O;refine⟨by simp,?_⟩;rcases z with⟨z,_⟩|⟨X,W,bt,z,bd,T,be⟩
   ·exact .inl ⟨by simpa using z,rfl⟩
   ·simp at z;obtain⟨rfl,rfl⟩:=z;have bD:X≠j:=de T t (by decide);refine .inr ⟨X,a0,bt,rfl,bd,?_,by simpa using be⟩;rw[heap_setCell_other _ _ _ _ bD]
    have cD:some X≠U.ownBlock:=by
     intro e;obtain⟨am,I⟩:=bF Y e.symm;exact de T I (by decide) rfl
    rw[a7.block X (bI (aM T) B.size) cD,B.block X (aM T) bD];exact T
  ·intro k q;simp[Value.ownBlock]at q;subst q;rcases Z with Z|Z;·exact .inl (a5 _ Z)
   ·refine .inr ⟨eF B.size Z,?_⟩;obtain⟨am,I⟩:=bF a8 (k:=g) rfl;have:=aM I;rw[au];exact this
  ·intro k q;exact .inl (bw k q)
  ·exact .inl a2
  ·simp[dn];omega
  ·simp[dn];omega
  ·omega
  ·intro id hid;simp at hid
  ·intro x s;simp[dn]at s;rcases s with s|rfl;·exact bp x s
   ·exact b5
 |some id=>
  obtain⟨gs,c2⟩:∃gs,gone=gs++[id]:=List.getLast?_eq_some_iff.1 b2;subst c2;obtain⟨c3,c4⟩:=bn id (by simp);obtain⟨d1,W,rfl,cS⟩:=dv O;obtain⟨N,rfl⟩:=cS (by simp);obtain⟨a,cap,bq,cn⟩:=co;obtain⟨A,rfl,av,cl,c7,cp⟩:=cn (by omega);obtain rfl:U=.slice (some ⟨A,0,none⟩) cs.length cap:=by rw[a4]at bq;simpa using bq
  obtain⟨bt,b1⟩:=bF O (k:=N) rfl;have b0:N≠j:=de b1 t (by decide);have c6:(gs++[id]).length=gs.length+1:=by simp
  rw[c6]at al O bg
  have c5:w.cell? ⟨N,gs.length,none⟩=some (.int .u32 id):=by
   rw[O.cellAt gs.length (by omega)];simp
  have b3:(id-2).toNat<cs.length:=by omega
  obtain⟨c,U⟩:∃c,cs[(id-2).toNat]?=some c:=⟨_,ar b3⟩;have c8:=c7 _ _ U
  have cE:gs.length+1≤W:=by
   rcases O.2 with⟨ab,_⟩|⟨_,_,_,ab,_,_,be,_⟩
   ·simp at ab
   ·simp at ab;omega
  have J:∀U,U<9→∃x,w.cell? ⟨A,(id-2).toNat*9+U,none⟩=some x:=fun U Z=>by
   rw[c8 U Z];exact⟨_,ar (by rw[lY];exact Z)⟩
  obtain⟨db,ca⟩:=J 0 (by omega);obtain⟨dj,cb⟩:=J 1 (by omega);obtain⟨dk,cc⟩:=J 2 (by omega);obtain⟨dl,cd⟩:=J 3 (by omega);obtain⟨dr,ce⟩:=J 4 (by omega);obtain⟨ds,cf⟩:=J 5 (by omega);obtain⟨dB,cg⟩:=J 6 (by omega);obtain⟨d0,ch⟩:=J 7 (by omega);obtain⟨Z,U⟩:=J 8 (by omega);refine(AS j A N r id gs.length cs.length cap W db dj dk dl dr ds dB d0 Z S room w a4 al br bs b6 ad bi (aw 1) (aw 2) (by omega) cE b7 c5 c3 (by omega) c4 ca cb cc cd ce cf cg ch U cp av av.symm b0).mono ?_;rintro e w' ⟨rfl,L,a1,B,E,rfl⟩;have E:=E _ t;simp at E;have bf:=jH A (cX (some r)) ((id-2).toNat*9) L;have ci:=B.bp (fun k q e=>av (by simp[Value.ownBlock]at q;omega)) Y;have cj:=kH cX lY rfl ci (id-2).toNat b3 (some r);have a6:j<L.heap.size:=bI bx B.size;have a':af F w (dO L A ((id-2).toNat*9) (cX (some r))):=(B.mono (fun k _ e=>by simpa[e]using a2)).bg (bf.mono (fun k _ e=>by simpa[e]using cl));have bb:ae (dO L A ((id-2).toNat*9) (cX (some r))) (((dO L A ((id-2).toNat*9) (cX (some r))).alloc a1).drew):=((ae.refl _).alloc a1).drew;have cy:L.ownsRow 0 50 1 (.slice (some ⟨N,0,none⟩) (gs.length+1) W) (gs.length+1) ((gs++[id]).map (Value.int .u32)):=B.bp (fun k q e=>b0 (by simp[Value.ownBlock]at q;omega)) O
  have cv:N≠A:=by
   obtain⟨am,I⟩:=bF Y (k:=A) rfl;exact de b1 I (by decide)
  have cx:=bf.bp (fun k q e=>cv (by simp[Value.ownBlock]at q;omega)) cy;refine⟨by simp[cQ],(a'.alloc a1).drew,⟨⟨.slice (some ⟨A,0,none⟩) cs.length cap,.slice (some ⟨N,0,none⟩) gs.length W,?_,?_,?_,?_,?_⟩,?_,?_,?_,?_,ad,?_,?_⟩⟩;·exact bb.heap ((bf.block j a6 (fun e=>av e.symm)).trans E)
  ·have:=bb.bp cj;simpa[dn]using this
  ·have ab:=bb.bp cx;refine⟨by simp,?_⟩;rcases ab.2 with⟨z,_⟩|⟨X,j,b8,z,bd,T,be,c9,c',da⟩
   ·simp at z
   ·simp at z;obtain⟨rfl,rfl⟩:=z;refine .inr ⟨N,W,b8,by simp,bd,T,by simp;omega,c9,c',?_⟩;have:=congrArg (List.take gs.length) da;rw[List.take_take]at this;simpa[Nat.min_eq_left]using this
  ·intro k q;exact .inl (a5 k q)
  ·intro k q;exact .inl (bw k (by simpa[Value.ownBlock]using q))
  ·exact .inl a2
  ·simp[dn];omega
  ·simp[dn];omega
  ·omega
  ·intro x s;simp at s;have:=bn x (by simp[s]);simpa[dn]using this
  ·intro x s;simp[dn]at s;rcases List.mem_or_eq_of_mem_set s with s|s;·exact bp x s
   ·simp at s;rw[s];exact b5
structure St where
 cs:List (Option Rec)
 gone:List Int
 n:Int
 room:Int
def St.len (M:St):Int:=(M.cs.length:Int)-(M.gone.length:Int)
def St.bD (M:St)(r:Rec):Option Int:=(M.cs.findIdx? (fun o=>decide (o=some r))).map (fun i=>(i:Int)+2)
def St.leads (M:St)(f:Int)(e:Edge)(l:Int):Bool:=
 dE f e l M.n&&(decide (e.to<2)||match look M.cs e.to with
  |some r=>r.al==f&&decide (l≤r.I)&&decide (e.tag≤r.I)
  |none=>false)
def St.br (M:St)(r:Rec):Bool:=!fT r M.n||!M.leads r.al r.lo (r.J+1)||!M.leads r.al r.hi (r.J+1)
def St.bd (M:St)(r:Rec):Int:=
 match M.bD r with
 |some id=>id
 |none=>if M.br r then 0 else if M.room≤M.len then 0 else cQ M.gone M.cs.length
def St.a' (M:St)(r:Rec):Int:=
 match M.bD r with
 |some _=>0
 |none=>if M.br r then 1 else if M.room≤M.len then 6 else 0
def St.a7 (M:St)(r:Rec):St:=
 match M.bD r with
 |some _=>M
 |none=>if M.br r then M else if M.room≤M.len then M else { M with cs:=dn M.cs M.gone r,gone:=M.gone.dropLast }
theorem jh {cs:List (Option Rec)}{i:Nat}{r:Rec}:look cs ((i:Int)+2)=some r↔cs[i]?=some (some r):=by
 have j:¬(i:Int)+2<2:=by omega
 have q:((i:Int)+2-2).toNat=i:=by omega
 unfold look;rw[ag j,q];cases h:cs[i]? with
 |none=>simp
 |some x=>simp
theorem jA {M:St}{r:Rec}{id:Int}(h:M.bD r=some id):look M.cs id=some r:=by
 unfold St.bD at h;cases j:M.cs.findIdx? (fun o=>decide (o=some r))with
 |none=>rw[j]at h;simp at h
 |some i=>
  rw[j]at h;simp at h;obtain⟨hi,q,_⟩:=List.findIdx?_eq_some_iff_getElem.1 j;subst h;rw[jh,ar hi];simpa using q
theorem oD {M:St}{r:Rec}(h:M.bD r=none)(id:Int):look M.cs id≠some r:=by
 intro t;obtain⟨z,A,q⟩:=ck t;unfold St.bD at h
 have j:M.cs.findIdx? (fun o=>decide (o=some r))=none:=by
  cases s:M.cs.findIdx? (fun o=>decide (o=some r))with
  |none=>rfl
  |some i=>rw[s]at h;simp at h
 rw[List.findIdx?_eq_none_iff]at j;have:=j (some r) (bB q);simp at this
def St.b3 (M:St):Prop:=∀r id j,look M.cs id=some r→look M.cs j=some r→id=j
theorem jf {M:St}(h:M.b3)(r:Rec)(id:Int):look M.cs id=some r↔M.bD r=some id:=by
 constructor
 ·intro j;cases hi:M.bD r with
  |none=>exact(oD hi id j).elim
  |some q=>rw[h r id q j (jA hi)]
 ·exact jA
theorem rQ {cs:List (Option Rec)}{gone:List Int}{r:Rec}(B:∀id∈gone,2≤id∧id-2<(cs.length:Int)∧look cs id=none)(id:Int)(q:Rec) :
  look (dn cs gone r) id=some q↔(id=cQ gone cs.length∧q=r)∨look cs id=some q:=by
 unfold dn cQ
 cases I:gone.getLast? with
 |none=>
  simp only[];constructor
  ·intro h;obtain⟨t,s,j⟩:=ck h;by_cases A:(id-2).toNat<cs.length
   ·right;rw[iU A]at j;have:=jh.2 j;rwa[show(((id-2).toNat:Nat):Int)+2=id by omega]at this
   ·left;rw[jt (by omega)]at j;simp at s;have e:(id-2).toNat-cs.length=0:=(by omega);rw[e]at j;simp at j;exact⟨by omega,j.symm⟩
  ·rintro(⟨rfl,rfl⟩|h);·rw[jh];simp
   ·obtain⟨t,s,j⟩:=ck h;have:=(jh (cs:=cs++[some r]) (i:=(id-2).toNat) (r:=q)).2 (by rw[iU (by omega)];exact j);rwa[show(((id-2).toNat:Nat):Int)+2=id by omega]at this
 |some x=>
  simp only[];obtain⟨gs,E⟩:=List.getLast?_eq_some_iff.1 I;obtain⟨A,I,L⟩:=B x (by rw[E];simp);have z:(x-2).toNat<cs.length:=by omega
  constructor
  ·intro h;obtain⟨t,s,j⟩:=ck h;rw[List.getElem?_set]at j;split at j
   ·rename_i A;left;simp[z]at j;exact⟨by omega,j.symm⟩
   ·right;have:=jh.2 j;rwa[show(((id-2).toNat:Nat):Int)+2=id by omega]at this
  ·rintro(⟨rfl,rfl⟩|h)
   ·have:=(jh (cs:=cs.set (id-2).toNat (some q)) (i:=(id-2).toNat) (r:=q)).2 (by simp[z]);rwa[show(((id-2).toNat:Nat):Int)+2=id by omega]at this
   ·obtain⟨t,s,j⟩:=ck h
    have J:(x-2).toNat≠(id-2).toNat:=by
     intro e;have:x=id:=(by omega);subst this;rw[L]at h;cases h
    have:=(jh (cs:=cs.set (x-2).toNat (some r)) (i:=(id-2).toNat) (r:=q)).2 (by rw[List.getElem?_set,ag J];exact j);rwa[show(((id-2).toNat:Nat):Int)+2=id by omega]at this
structure St.wf (M:St):Prop where
 n0:0≤M.n
 bw:M.n≤16
 gone:∀id∈M.gone,2≤id∧id-2<(M.cs.length:Int)∧look M.cs id=none
 g1:M.gone.Nodup
 c5:∀id r,look M.cs id=some r→M.br r=false
 b3:M.b3
 fp:0≤M.len
 hL:0≤M.room
 e6:M.room≤1048576
 cS:M.len≤M.room
theorem oL {M M':St}(t:M'.n=M.n)(s:∀id r,look M.cs id=some r→look M'.cs id=some r){f:Int}{e:Edge}{l:Int}(h:M.leads f e l=true):M'.leads f e l=true:=by
 unfold St.leads at h ⊢;rw[t];simp only[bT,dS]at h ⊢;refine⟨h.1,?_⟩;rcases h.2 with j|j;·exact .inl j
 ·right;cases q:look M.cs e.to with
  |none=>rw[q]at j;simp at j
  |some r=>rw[s _ _ q];rw[q]at j;exact j
theorem qn {M M':St}(j:M'.n=M.n)(q:∀id r,look M.cs id=some r→look M'.cs id=some r){r:Rec}(h:M.br r=false):M'.br r=false:=by
 unfold St.br at h ⊢;simp only[Bool.or_eq_false_iff,Bool.not_eq_false']at h ⊢;exact⟨⟨by rw[j];exact h.1.1,oL j q h.1.2⟩,oL j q h.2⟩
theorem sN {cs:List (Option Rec)}{gone:List Int}{r:Rec}:((dn cs gone r).length:Int)-(gone.dropLast.length:Int)=(cs.length:Int)-(gone.length:Int)+1:=by
 unfold dn;cases j:gone.getLast? with
 |none=>
  have:gone=[]:=by simpa using j
  subst this;simp
 |some x=>
  obtain⟨gs,q⟩:=List.getLast?_eq_some_iff.1 j;subst q;simp;omega
theorem mK {cs:List (Option Rec)}{gone:List Int}(s:∀id∈gone,2≤id∧id-2<(cs.length:Int)∧look cs id=none):2≤cQ gone cs.length∧cQ gone cs.length≤(cs.length:Int)+2∧look cs (cQ gone cs.length)=none:=by
 unfold cQ;cases A:gone.getLast? with
 |none=>
  refine⟨by simp only[];omega,by simp only[];omega,?_⟩;simp only[];cases z:look cs ((cs.length:Int)+2)with
  |none=>rfl
  |some r=>have:=ck z;omega
 |some x=>
  obtain⟨gs,t⟩:=List.getLast?_eq_some_iff.1 A;obtain⟨j,z,q⟩:=s x (by rw[t];simp);exact⟨j,by simp only[];omega,q⟩
def St.add (M:St)(r:Rec):St:={ M with cs:=dn M.cs M.gone r,gone:=M.gone.dropLast }
theorem St.wf.fj {M:St}(h:M.wf)(r:Rec)(id:Int)(j:Rec):look (M.add r).cs id=some j↔(id=cQ M.gone M.cs.length∧j=r)∨look M.cs id=some j:=rQ h.gone id j
theorem St.fg (M:St)(r:Rec):(M.add r).len=M.len+1:=sN
theorem St.wf.add {M:St}(h:M.wf){r:Rec}(N:M.bD r=none)(X:M.br r=false)(T:M.len<M.room):(M.add r).wf:=by
 have q:=h.fj r;have O:∀id j,look M.cs id=some j→look (M.add r).cs id=some j:=fun id j T=>(q id j).2 (.inr T);have T:=M.fg r;refine⟨h.n0,h.bw,?_,?_,?_,?_,?_,h.hL,h.e6,?_⟩
 ·intro id hid;replace hid:id∈M.gone.dropLast:=hid;have I:id∈M.gone:=(List.dropLast_sublist _).mem hid;obtain⟨T,Z,U⟩:=h.gone id I;refine⟨T,?_,?_⟩
  ·have:=@Cs M.cs M.gone r;show id-2<((dn M.cs M.gone r).length:Int);omega
  ·cases s:look (M.add r).cs id with
   |none=>rfl
   |some j=>
    exfalso;rcases(q id j).1 s with⟨e,_⟩|e
    ·cases E:M.gone.getLast? with
     |none=>
      have:M.gone=[]:=(by simpa using E);rw[this]at I;simp at I
     |some x=>
      have Y:cQ M.gone M.cs.length=x:=(by unfold cQ;rw[E]);obtain⟨gs,I⟩:=List.getLast?_eq_some_iff.1 E;have J:=h.g1;rw[I]at J hid;simp at hid;rw[List.nodup_append]at J;exact J.2.2 id hid x (by simp) (e.trans Y)
    ·rw[U]at e;cases e
 ·exact List.Nodup.sublist (List.dropLast_sublist _) h.g1
 ·intro id j s;rcases(q id j).1 s with⟨_,rfl⟩|s
  ·exact qn (M:=M) (M':=M.add j) rfl O X
  ·exact qn (M:=M) (M':=M.add r) rfl O (h.c5 id j s)
 ·intro j id z W L;rcases(q id j).1 W with⟨S,A⟩|B
  ·rcases(q z j).1 L with⟨s,_⟩|t
   ·rw[S,s]
   ·rw[A]at t;exact(oD N z t).elim
  ·rcases(q z j).1 L with⟨_,A⟩|t
   ·rw[A]at B;exact(oD N id B).elim
   ·exact h.b3 j id z B t
 ·have:=h.fp;omega
 ·show(M.add r).len≤M.room;omega
theorem St.wf.g7 {M:St}(h:M.wf)(r:Rec):(M.a7 r).wf:=by
 unfold St.a7;cases hi:M.bD r with
 |some id=>exact h
 |none=>
  simp only[];split;·exact h
  ·split;·exact h
   ·exact h.add hi (by simpa using ‹¬M.br r=true›) (by omega)
theorem B' (x y:Rec)(w:World):(binOp .neq 199 (.agg #[.int .u8 x.al,.int .u8 x.I,.int .u8 x.J,.int .u8 x.lo.tag,.int .u32 x.lo.to,.int .u8 x.hi.tag,.int .u32 x.hi.to]) (.agg #[.int .u8 y.al,.int .u8 y.I,.int .u8 y.J,.int .u8 y.lo.tag,.int .u32 y.lo.to,.int .u8 y.hi.tag,.int .u32 y.hi.to])).run Tryz.prog w=.ok (.bool (!decide (x=y))) w:=by
 obtain⟨a,b,c,⟨d,e⟩,⟨f,g⟩⟩:=x;obtain⟨E,b',I,⟨d',J⟩,⟨L,N⟩⟩:=y;simp only[];by_cases j:a=E
 ·by_cases q:b=b'
  ·by_cases s:c=I
   ·by_cases t:d=d'
    ·by_cases z:e=J
     ·by_cases A:f=L
      ·by_cases B:g=N;·simp[go_sem,j,q,s,t,z,A,B]
       ·simp[go_sem,j,q,s,t,z,A,B]
      ·simp[go_sem,j,q,s,t,z,A]
     ·simp[go_sem,j,q,s,t,z]
    ·simp[go_sem,j,q,s,t]
   ·simp[go_sem,j,q,s]
  ·simp[go_sem,j,q]
 ·simp[go_sem,j]
theorem tk (x y:Rec)(w:World):(binOp .eql 134 (.agg #[.int .u8 x.al,.int .u8 x.I,.int .u8 x.J,.int .u8 x.lo.tag,.int .u32 x.lo.to,.int .u8 x.hi.tag,.int .u32 x.hi.to]) (.agg #[.int .u8 y.al,.int .u8 y.I,.int .u8 y.J,.int .u8 y.lo.tag,.int .u32 y.lo.to,.int .u8 y.hi.tag,.int .u32 y.hi.to])).run Tryz.prog w=.ok (.bool (decide (x=y))) w:=by
 obtain⟨a,b,c,⟨d,e⟩,⟨f,g⟩⟩:=x;obtain⟨E,b',I,⟨d',J⟩,⟨L,N⟩⟩:=y;simp only[];by_cases j:a=E
 ·by_cases q:b=b'
  ·by_cases s:c=I
   ·by_cases t:d=d'
    ·by_cases z:e=J
     ·by_cases A:f=L
      ·by_cases B:g=N;·simp[go_sem,j,q,s,t,z,A,B]
       ·simp[go_sem,j,q,s,t,z,A,B]
      ·simp[go_sem,j,q,s,t,z,A]
     ·simp[go_sem,j,q,s,t,z]
    ·simp[go_sem,j,q,s,t]
   ·simp[go_sem,j,q,s]
  ·simp[go_sem,j,q]
 ·simp[go_sem,j]
theorem Ca (x y:Rec)(w:World):(binOp .neq 134 (.agg #[.int .u8 x.al,.int .u8 x.I,.int .u8 x.J,.int .u8 x.lo.tag,.int .u32 x.lo.to,.int .u8 x.hi.tag,.int .u32 x.hi.to]) (.agg #[.int .u8 y.al,.int .u8 y.I,.int .u8 y.J,.int .u8 y.lo.tag,.int .u32 y.lo.to,.int .u8 y.hi.tag,.int .u32 y.hi.to])).run Tryz.prog w=.ok (.bool (!decide (x=y))) w:=by
 obtain⟨a,b,c,⟨d,e⟩,⟨f,g⟩⟩:=x;obtain⟨E,b',I,⟨d',J⟩,⟨L,N⟩⟩:=y;simp only[];by_cases j:a=E
 ·by_cases q:b=b'
  ·by_cases s:c=I
   ·by_cases t:d=d'
    ·by_cases z:e=J
     ·by_cases A:f=L
      ·by_cases B:g=N;·simp[go_sem,j,q,s,t,z,A,B]
       ·simp[go_sem,j,q,s,t,z,A,B]
      ·simp[go_sem,j,q,s,t,z,A]
     ·simp[go_sem,j,q,s,t,z]
    ·simp[go_sem,j,q,s,t]
   ·simp[go_sem,j,q,s]
  ·simp[go_sem,j,q]
 ·simp[go_sem,j]
theorem mR (x y:Edge)(w:World):(binOp .eql 52 (.agg #[.int .u8 x.tag,.int .u32 x.to]) (.agg #[.int .u8 y.tag,.int .u32 y.to])).run Tryz.prog w=.ok (.bool (decide (x=y))) w:=by
 obtain⟨d,e⟩:=x;obtain⟨d',s⟩:=y;by_cases j:d=d'
 ·by_cases q:e=s;·simp[go_sem,j,q]
  ·simp[go_sem,j,q]
 ·simp[go_sem,j]
open Go.Sort
def nd (cs:List (Option Rec))(j:Int→Prop):Prop:=
 ∀id r,j id→look cs id=some r→(look cs r.lo.to≠none→j r.lo.to)∧(look cs r.hi.to≠none→j r.hi.to)
def Reaches (cs:List (Option Rec))(roots:List Int)(id:Int):Prop:=
 ∀j:Int→Prop,(∀e∈roots,look cs e≠none→j e)→nd cs j→j id
theorem Reaches.root {cs:List (Option Rec)}{roots:List Int}{id:Int}(h:id∈roots)(q:look cs id≠none):Reaches cs roots id:=fun _ j _=>j id h q
theorem Reaches.closed (cs:List (Option Rec))(roots:List Int):nd cs (Reaches cs roots):=
 fun id r h t=>⟨fun s q hS j=>((j id r (h q hS j) t).1 s),fun s q hS j=>((j id r (h q hS j) t).2 s)⟩
theorem Reaches.some {cs:List (Option Rec)}{roots:List Int}{id:Int}(h:Reaches cs roots id):look cs id≠none:=
 h (fun x=>look cs x≠none) (fun _ _ h=>h) (fun _ _ _ _=>⟨fun h=>h,fun h=>h⟩)
theorem Reaches.mono {cs:List (Option Rec)}{a b:List Int}(h:∀x∈a,x∈b){id:Int}(s:Reaches cs a id):Reaches cs b id:=
 fun j hS q=>s j (fun e j s=>hS e (h e j) s) q
theorem Reaches.below {cs:List (Option Rec)}{a b:List Int}(h:∀x∈a,look cs x≠none→Reaches cs b x){id:Int}(s:Reaches cs a id):Reaches cs b id:=
 fun j hS q=>s j (fun e s t=>h e s t j hS q) q
structure fW (cs:List (Option Rec))(e:Int)(S T:List Int):Prop where
 dk:look cs e≠none→e∈S++T
 e7:∀id∈T,∀r,look cs id=some r→(look cs r.lo.to≠none→r.lo.to∈S++T)∧(look cs r.hi.to≠none→r.hi.to∈S++T)
 dj:∀id∈T,Reaches cs [e] id
 b3:T.Nodup
 apart:∀id∈T,id∉S
theorem fW.none {cs:List (Option Rec)}{e:Int}{j:List Int}(h:look cs e=none):fW cs e j []:=
 ⟨fun q=>absurd h q,by simp,by simp,by simp,by simp⟩
theorem fW.hB {cs:List (Option Rec)}{e:Int}{j:List Int}(h:e∈j):fW cs e j []:=
 ⟨fun _=>by simpa using h,by simp,by simp,by simp,by simp⟩
theorem fW.gf {cs:List (Option Rec)}{e:Int}{r:Rec}{s t B:List Int}(E:look cs e=some r)(W:e∉s)(j:fW cs r.lo.to (s++[e]) t)(q:fW cs r.hi.to (s++[e]++t) B):fW cs e s (e::(t++B)):=by
 have O:s++e::(t++B)=s++[e]++t++B:=by simp
 have I:Reaches cs [e] e:=Reaches.root (by simp) (by rw[E];simp);refine⟨fun _=>by simp,?_,?_,?_,?_⟩
 ·intro id hid N z;rw[O];rcases List.mem_cons.1 hid with rfl|hid
  ·rw[E]at z;cases z;exact⟨fun h=>gz _ (j.dk h),fun h=>q.dk h⟩
  ·rcases List.mem_append.1 hid with hid|hid;·exact⟨fun h=>gz _ ((j.e7 id hid N z).1 h),fun h=>gz _ ((j.e7 id hid N z).2 h)⟩
   ·exact q.e7 id hid N z
 ·intro id hid;rcases List.mem_cons.1 hid with rfl|hid;·exact I
  ·rcases List.mem_append.1 hid with hid|hid;·exact(j.dj id hid).below (fun x A L=>by rw[cF]at A;subst A;exact(Reaches.closed cs [e] e r I E).1 L)
   ·exact(q.dj id hid).below (fun x A L=>by rw[cF]at A;subst A;exact(Reaches.closed cs [e] e r I E).2 L)
 ·refine List.nodup_cons.2 ⟨?_,List.nodup_append.2 ⟨j.b3,q.b3,?_⟩⟩
  ·intro hm;rcases List.mem_append.1 hm with hm|hm;·exact j.apart e hm (by simp)
   ·exact q.apart e hm (by simp)
  ·intro a S b U T;subst T;exact q.apart a U (List.mem_append_right _ S)
 ·intro id hid J;rcases List.mem_cons.1 hid with rfl|hid;·exact W J
  ·rcases List.mem_append.1 hid with hid|hid;·exact j.apart id hid (by simp[J])
   ·exact q.apart id hid (by simp[J])
structure gw (cs:List (Option Rec))(es:List Int)(S:List Int):Prop where
 dk:∀e∈es,look cs e≠none→e∈S
 e7:nd cs (fun id=>id∈S)
 dj:∀id∈S,Reaches cs es id
 b3:S.Nodup
theorem gw.nil (cs:List (Option Rec)):gw cs [] []:=⟨by simp,fun _ _ h=>by simp at h,by simp,by simp⟩
theorem gw.step {cs:List (Option Rec)}{es t z:List Int}{e:Int}(h:gw cs es t)(s:fW cs e t z):gw cs (es++[e]) (t++z):=by
 refine⟨?_,?_,?_,?_⟩
 ·intro x j q;rcases List.mem_append.1 j with j|j;·exact gz _ (h.dk x j q)
  ·rw[cF]at j;subst j;exact s.dk q
 ·intro id r hid q;rcases List.mem_append.1 hid with hid|hid;·exact⟨fun t=>gz _ ((h.e7 id r hid q).1 t),fun t=>gz _ ((h.e7 id r hid q).2 t)⟩
  ·exact s.e7 id hid r q
 ·intro id hid;rcases List.mem_append.1 hid with hid|hid;·exact(h.dj id hid).mono (fun x j=>gz _ j)
  ·exact(s.dj id hid).mono (fun x j=>List.mem_append_right _ j)
 ·refine List.nodup_append.2 ⟨h.b3,s.b3,?_⟩;intro a A b E B;subst B;exact s.apart a E A
theorem gw.fb {cs:List (Option Rec)}{es j:List Int}(h:gw cs es j)(id:Int):id∈j↔Reaches cs es id:=
 ⟨h.dj id,fun q=>q (fun x=>x∈j) (fun e q s=>h.dk e q s) h.e7⟩
noncomputable def aU (cs:List (Option Rec))(roots:List Int):List Int:=
 letI:=Classical.propDecidable
 ((List.range cs.length).map (fun i:Nat=>(i:Int)+2)).filter (fun id=>decide (Reaches cs roots id))
theorem gR {cs:List (Option Rec)}{roots:List Int}{id:Int}:id∈aU cs roots↔Reaches cs roots id:=by
 unfold aU;rw[List.mem_filter];simp only[bC];refine⟨fun h=>h.2,fun h=>⟨?_,h⟩⟩;cases j:look cs id with
 |none=>exact absurd j h.some
 |some r=>
  obtain⟨q,s,_⟩:=ck j;exact List.mem_map.2 ⟨(id-2).toNat,List.mem_range.2 (by omega),by omega⟩
theorem lG (cs:List (Option Rec))(roots:List Int):(aU cs roots).Pairwise (·<·):=by
 unfold aU;refine List.Pairwise.filter _ (List.pairwise_map.2 (List.Pairwise.imp (R:=(·<·)) ?_ List.pairwise_lt_range));intro a b h;omega
theorem po:∀{a b:List Int},a.Pairwise (·<·)→b.Pairwise (·<·)→(∀x,x∈a↔x∈b)→a=b
 |[],[],_,_,_=>rfl
 |[],y::b,_,_,h=>by have:=(h y).2 (by simp);simp at this
 |x::a,[],_,_,h=>by have:=(h x).1 (by simp);simp at this
 |x::a,y::b,I,J,h=>by
  obtain⟨A,a2⟩:=List.pairwise_cons.1 I;obtain⟨B,E⟩:=List.pairwise_cons.1 J
  have e:x=y:=by
   have j:=(h x).1 (by simp);have q:=(h y).2 (by simp);rcases List.mem_cons.1 j with j|j;·exact j
   ·rcases List.mem_cons.1 q with q|q;·exact q.symm
    ·have:=B x j;have:=A y q;omega
  subst e;congr 1
  refine po a2 E fun t=>⟨fun s=>?_,fun s=>?_⟩
  ·rcases List.mem_cons.1 ((h t).1 (eE _ s))with e|z;·subst e;have:=A t s;omega
   ·exact z
  ·rcases List.mem_cons.1 ((h t).2 (eE _ s))with e|z;·subst e;have:=B t s;omega
   ·exact z
theorem C4 {cs:List (Option Rec)}{roots s:List Int}{d d':Array Int}(h:gw cs roots s)(J:d.toList.Perm s)(S:PermIn 0 d.size d d')(T:SortedIn ltInt 0 d.size d'):d'.toList=aU cs roots:=by
 obtain⟨t,s,z⟩:=S;have B:d.extract 0 d.size=d:=by simp
 have E:d'.extract 0 d.size=d':=by rw[←t];simp
 rw[B,E]at z;have A:=z.trans J;have O:d'.toList.Nodup:=A.nodup_iff.2 h.b3;refine po ?_ (lG _ _) fun x=>?_
 ·rw[List.pairwise_iff_getElem];intro i j hi q s;have I:=T i j (Nat.zero_le _) s (by rw[←t];simpa using q);have L:i<d'.size:=by simpa using hi
  have N:j<d'.size:=by simpa using q
  simp only[ltInt,getElem!_pos d' i L,getElem!_pos d' j N,decide_eq_false_iff_not]at I
  have s:d'[i]≠d'[j]:=fun e=>by
   have:=(List.getElem_inj (h₀:=hi) (h₁:=q) O).1 (by simpa using e);omega
  simp only[Array.getElem_toList];omega
 ·rw[A.mem_iff,h.fb,gR]
structure kO (M:St)(r:Rec):Prop where
 f1:1≤r.al
 f5:r.al≤5
 tb:r.I≤r.J
 bn:r.J<M.n
 chain:r.I=r.J∨fN r.al=true
 lo:M.leads r.al r.lo (r.J+1)=true
 hi:M.leads r.al r.hi (r.J+1)=true
 zero:r.al=2∨r.al=4→r.hi.to≠0
 apart:r.al≠2→r.al≠4→r.lo≠r.hi
theorem qX {M:St}{r:Rec}(h:M.br r=false):kO M r:=by
 unfold St.br at h;simp only[Bool.or_eq_false_iff,Bool.not_eq_false']at h;obtain⟨⟨j,z⟩,A⟩:=h;unfold fT at j;split at j;·cases j
 ·rename_i q;simp only[dS,bT,Bool.not_eq_true',bC,not_or,not_and,bne_iff_ne,ne_eq,Bool.not_eq_false]at q;obtain⟨⟨⟨⟨q,_⟩,I⟩,J⟩,t⟩:=q;have q:aR r.al=true:=by cases h:aR r.al<;>simp_all
  unfold aR at q;simp only[bT,bC]at q;split at j;·cases j
  ·refine⟨by omega,by omega,by omega,by omega,?_,z,A,?_,?_⟩
   ·by_cases s:r.I=r.J;·exact .inl s
    ·exact .inr (t s)
   ·intro q;have:(r.al==2||r.al==4)=true:=(by simpa using q);rw[ah this]at j;simpa using j
   ·intro B E s;have:¬(r.al==2||r.al==4)=true:=(by simp[B,E]);rw[ag this,s]at j;simp at j
theorem St.wf.b6 {M:St}(h:M.wf){id:Int}{r:Rec}(j:look M.cs id=some r):kO M r:=qX (h.c5 id r j)
theorem jC {M:St}{f:Int}{e:Edge}{l:Int}(h:M.leads f e l=true):dE f e l M.n=true∧(e.to<2∨∃r,look M.cs e.to=some r∧r.al=f∧l≤r.I∧e.tag≤r.I):=by
 unfold St.leads at h;simp only[bT,dS,bC]at h;refine⟨h.1,?_⟩;rcases h.2 with j|j;·exact .inl j
 ·right;cases q:look M.cs e.to with
  |none=>rw[q]at j;cases j
  |some r=>
   rw[q]at j;simp only[bT,bC,beq_iff_eq]at j;exact⟨r,rfl,j.1.1,j.1.2,j.2⟩
theorem qC {M:St}(h:M.wf){id:Int}{r j:Rec}(A:look M.cs id=some r){e:Edge}(t:e=r.lo∨e=r.hi)(q:look M.cs e.to=some j):r.I<j.I∧j.al=r.al:=by
 have g:=h.b6 A;have j:=(ck q).1;have B:M.leads r.al e (r.J+1)=true:=by rcases t with rfl|rfl;exact g.lo;exact g.hi
 rcases(jC B).2 with j|⟨x,s,z,j,_⟩;·omega
 ·rw[q]at s;cases s;have:=g.tb;exact⟨by omega,z⟩
end Go.Proofs.YtafkamlhimkbmaaGreat
