/-
  Walks of package arena.
-/
import Derived.Test.YtafkamlhimkbmaaGreatPFindA
import Derived.Sort.AssemblyPlain
namespace Go.Proofs.YtafkamlhimkbmaaGreat
set_option maxRecDepth 1000000
set_option maxHeartbeats 8000000
set_option linter.unusedSimpArgs false
set_option linter.unusedVariables false
open Go.RowKit

theorem sU (j:Nat)(id:Int)(cs:Option Addr)(len cap:Nat)(w:World)(q:id≤4294967295)
  (s:w.cell? ⟨j,0,none⟩=some (.slice cs len cap)) (t:len≤1048576) (h:id<2) :
  Calls Tryz.prog 198 #[.pointer (some ⟨j,0,none⟩),.int .u32 id] w fun r w'=>r=.returned (.pointer none)∧w=w':=by
 go_enter Tryz.func198,Tryz.ntmps198
 go_wp2
 go_ret
 exact⟨rfl,rfl⟩

theorem sV (j:Nat)(id:Int)(cs:Option Addr)(len cap:Nat)(w:World)(q:2≤id)(s:id≤4294967295)
  (t:w.cell? ⟨j,0,none⟩=some (.slice cs len cap)) (z:len≤1048576) (h:(len:Int)≤id-2) :
  Calls Tryz.prog 198 #[.pointer (some ⟨j,0,none⟩),.int .u32 id] w fun r w'=>r=.returned (.pointer none)∧w=w':=by
 go_enter Tryz.func198,Tryz.ntmps198
 go_wp2
 go_ret
 exact⟨rfl,rfl⟩

theorem sS (j q:Nat)(id:Int)(len cap:Nat)(w:World)(s:2≤id)(t:id≤4294967295)
  (z:w.cell? ⟨j,0,none⟩=some (.slice (some ⟨q,0,none⟩) len cap)) (E:len≤1048576) (h:id-2<(len:Int))
  (A:w.cell? ⟨q,(id-2).toNat*9+7,none⟩=some (.bool false)) :
  Calls Tryz.prog 198 #[.pointer (some ⟨j,0,none⟩),.int .u32 id] w fun r w'=>r=.returned (.pointer none)∧w=w':=by
 go_enter Tryz.func198,Tryz.ntmps198
 go_wp2
 go_ret
 exact⟨rfl,rfl⟩

theorem oM (q j:Nat)(id:Int)(len cap:Nat)(w:World)(s:2≤id)(t:id≤4294967295)
  (z:w.cell? ⟨q,0,none⟩=some (.slice (some ⟨j,0,none⟩) len cap)) (E:len≤1048576) (h:id-2<(len:Int))
  (A:w.cell? ⟨j,(id-2).toNat*9+7,none⟩=some (.bool true)) :
  Calls Tryz.prog 198 #[.pointer (some ⟨q,0,none⟩),.int .u32 id] w fun r w'=>r=.returned (.pointer (some ⟨j,(id-2).toNat*9,none⟩))∧w=w':=by
 go_enter Tryz.func198,Tryz.ntmps198
 go_wp2
 go_ret
 exact⟨rfl,rfl⟩

theorem vG (q:Nat)(id:Int)(w:World)
  (s:∀j,aa w j→Calls Tryz.prog 198 #[.pointer (some ⟨q,0,none⟩),.int .u32 id] j fun r w'=>r=.returned (.pointer none)∧j=w') :
  Calls Tryz.prog 133 #[.pointer (some ⟨q,0,none⟩),.int .u32 id] w fun r w'=>
   r=.returned (.tuple #[.agg #[.int .u8 0,.int .u8 0,.int .u8 0,.int .u8 0,.int .u32 0,.int .u8 0,.int .u32 0],.bool false])∧aa w w':=by
 have H:=Lib.hid s
 clear s
 go_enter Tryz.func133,Tryz.ntmps133
 go_wp2_with (first|(refine(H.out _ (by(exact kp))).mono ?_;rintro e w' ⟨rfl,rfl⟩)|fail)
 refine bodyPost_ret (v:=.tuple #[.agg #[.int .u8 0,.int .u8 0,.int .u8 0,.int .u8 0,.int .u32 0,.int .u8 0,.int .u32 0],.bool false]) (by simp[results,Tryz.results133,go_sem]) rfl ⟨rfl,by(exact kp)⟩

theorem vH (s j:Nat)(id:Int)(r:Rec)(w:World)
  (t:∀q,aa w q→Calls Tryz.prog 198 #[.pointer (some ⟨s,0,none⟩),.int .u32 id] q fun r w'=>r=.returned (.pointer (some ⟨j,(id-2).toNat*9,none⟩))∧q=w')
  (z:w.cell? ⟨j,(id-2).toNat*9,none⟩=some (.int .u8 r.ad)) (E:w.cell? ⟨j,(id-2).toNat*9+1,none⟩=some (.int .u8 r.I))
  (I:w.cell? ⟨j,(id-2).toNat*9+2,none⟩=some (.int .u8 r.J)) (J:w.cell? ⟨j,(id-2).toNat*9+3,none⟩=some (.int .u8 r.lo.tag))
  (K:w.cell? ⟨j,(id-2).toNat*9+4,none⟩=some (.int .u32 r.lo.to)) (L:w.cell? ⟨j,(id-2).toNat*9+5,none⟩=some (.int .u8 r.hi.tag))
  (N:w.cell? ⟨j,(id-2).toNat*9+6,none⟩=some (.int .u32 r.hi.to)) :
  Calls Tryz.prog 133 #[.pointer (some ⟨s,0,none⟩),.int .u32 id] w fun e w'=>
   e=.returned (.tuple #[.agg #[.int .u8 r.ad,.int .u8 r.I,.int .u8 r.J,.int .u8 r.lo.tag,.int .u32 r.lo.to,.int .u8 r.hi.tag,.int .u32 r.hi.to],.bool true])∧aa w w':=by
 have H:=Lib.hid t
 clear t
 have A:=aD z
 dsimp only at A
 have q:j≠w.heap.size:=by omega
 go_enter Tryz.func133,Tryz.ntmps133
 go_wp2_with (first|(refine(H.out _ (by(exact kp))).mono ?_;rintro e w' ⟨rfl,rfl⟩)|fail)
 go_outline
 refine bodyPost_ret (v:=.tuple #[.agg #[.int .u8 r.ad,.int .u8 r.I,.int .u8 r.J,.int .u8 r.lo.tag,.int .u32 r.lo.to,.int .u8 r.hi.tag,.int .u32 r.hi.to],.bool true]) (by simp[results,Tryz.results133,go_sem]) rfl ⟨rfl,by(exact kp)⟩

theorem yV (j:Nat)(r:Rec)(q room:Int)(w:World) 
  (s:w.cell? ⟨j,2,none⟩=some (.int .i64 q)) (t:w.cell? ⟨j,3,none⟩=some (.int .i64 room)) (z:room≤q) :
  Calls Tryz.prog 137 #[.pointer (some ⟨j,0,none⟩),.agg #[.int .u8 r.ad,.int .u8 r.I,.int .u8 r.J,.int .u8 r.lo.tag,.int .u32 r.lo.to,.int .u8 r.hi.tag,.int .u32 r.hi.to]] w fun e w'=>
   e=.returned (.tuple #[.int .u32 0,.bool false])∧aa w w':=by
 have q:j<w.heap.size:=aD s
 go_enter Tryz.func137,Tryz.ntmps137
 go_wp2
 go_quiet (fail)
 go_wp2
 go_ret2
 exact⟨rfl,by(exact kp)⟩

theorem wC:(Tryz.prog.info? 271).map (fun i=>(i.zero,i.size,i.bytes))=some (some (.agg #[.int .u8 0,.int .u8 0,.int .u8 0,.int .u8 0,.int .u32 0,.int .u8 0,.int .u32 0,.bool false,.int .i64 0]),9,32):=by kernel_rfl

theorem yW (j:Nat)(r:Rec)(q:Value)(n:Nat)(xs:List Value)(s room:Int)(w:World)(U:Option Addr)(W:Nat)
  (Y:w.cell? ⟨j,0,none⟩=some q) (a2:w.cell? ⟨j,1,none⟩=some (.slice U 0 W))
  (Z:w.cell? ⟨j,2,none⟩=some (.int .i64 s)) (a3:w.cell? ⟨j,3,none⟩=some (.int .i64 room)) (a6:s<room) (a8:room≤1048576) (a4:0≤s)
  (ab:w.frozen? ⟨j,0,none⟩=false) (a5:w.frozen? ⟨j,2,none⟩=false)
  (I:w.ownsRow 0 271 9 q n xs) (a7:n<1048576) (N:q.ownBlock≠some j) :
  Calls Tryz.prog 137 #[.pointer (some ⟨j,0,none⟩),.agg #[.int .u8 r.ad,.int .u8 r.I,.int .u8 r.J,.int .u8 r.lo.tag,.int .u32 r.lo.to,.int .u8 r.hi.tag,.int .u32 r.hi.to]] w fun e w'=>
   e=.returned (.tuple #[.int .u32 (n+2),.bool true])∧∃g cap w1 t,ae (fun k=>k=j) w t∧(∀cs,w.heap[j]?=some (.cells cs 194 (0,0))→t.heap[j]?=some (.cells (cs.setIfInBounds 2 (.int .i64 (s+1))) 194 (0,0)))∧t.grownBy w1 q.ownBlock∧(q.ownBlock=some g∨t.heap.size≤g)∧w1.ownsRow 0 271 9 (.slice (some ⟨g,0,none⟩) (n+1) cap) (n+1) (xs++bZ (some r))∧w'=w1.setCell ⟨j,0,none⟩ (.slice (some ⟨g,0,none⟩) (n+1) cap):=by
 have A:j<w.heap.size:=aD Z
 have J:j<w.heap.size+1:=by omega
 have K:j<w.heap.size+1+1:=by omega
 have L:j<w.heap.size+1+1+1:=by omega
 have t:q.oneCell'=true:=by obtain⟨_,_,rfl,_⟩:=eO I;rfl
 obtain⟨a1,hi,am,av,aw⟩:=info_parts wC
 have z:=Lib.hid N
 have T:=Lib.hid I
 clear N I
 go_enter Tryz.func137,Tryz.ntmps137
 go_wp2
 go_quiet (fail)
 go_wp2
 go_region_law (refine AM rfl (.tmp 68) (.tmp 70) 192 rfl 0 271 a1 _ 9 32 Tryz.underlying192 hi am av aw rfl (by decide) q n xs rfl ?_ _ 1 1 (bZ (some r)) rfl rfl ?_ ?_ ?_ ?_ (Nat.zero_le _) ?_;exact ae.br (F:=fun k=>k=j) (by(exact up)) (fun k h e=>z.out (e ▸ h)) T.out;exact l7 _ _ _ _ (by simp);(intro u S;simp[bZ,fI]at S;rcases S with rfl|rfl|rfl|rfl|rfl|rfl|rfl|rfl|rfl<;>rfl);(unfold maxLen;omega);omega;intro t w1 O E ad;(obtain⟨g,cap,rfl⟩:=qB O (by omega));have t:=gO (o:=0) (v:=q) E z.out (by simp[go_sem,Y,A,J,K,L]);have q:=mr (o:=0) E (by simp;omega) z.out (by simp[go_sem,ab,A,J,K,L]))
 all_goals go_wp2
 all_goals go_ret2
 all_goals refine⟨?_,g,cap,w1,_,?_,?_,E,ad g rfl,O,rfl⟩
 all_goals first|((exact up);done)|(simp;done)|skip
 all_goals(intro cs q;have t:((w.alloc (.cells #[.int .u8 r.ad,.int .u8 r.I,.int .u8 r.J,.int .u8 r.lo.tag,.int .u32 r.lo.to,.int .u8 r.hi.tag,.int .u32 r.hi.to] 134)).drewN nq).heap[j]?=some (.cells cs 194 (0,0)):=(Below.heap_alloc w _ j A).trans q)
 all_goals(have q:=heap_setCell_same _ j 2 _ _ (.int .i64 (s+1)) t;have X:=aN q;(repeat (first|exact q|refine(Below.heap_alloc _ _ _ (by simp at X ⊢;omega)).trans ?_|(show(World.alloc _ _).heap[j]?=_))))

theorem yU (j q s:Nat)(r:Rec)(id:Int)(k len cap A:Nat)(I J K L N O S T U:Value)(t room:Int)(w:World)
  (a4:w.cell? ⟨j,0,none⟩=some (.slice (some ⟨q,0,none⟩) len cap)) (a5:w.cell? ⟨j,1,none⟩=some (.slice (some ⟨s,0,none⟩) (k+1) A))
  (X:w.cell? ⟨j,2,none⟩=some (.int .i64 t)) (a6:w.cell? ⟨j,3,none⟩=some (.int .i64 room)) (be:t<room) (bw:room≤1048576) (a7:0≤t)
  (a8:w.frozen? ⟨j,1,none⟩=false) (a':w.frozen? ⟨j,2,none⟩=false) (bp:k<1048576) (bq:k+1≤A) (br:len≤1048576)
  (hid:w.cell? ⟨s,k,none⟩=some (.int .u32 id)) (bg:2≤id) (bi:id≤4294967295) (bn:id-2<(len:Int))
  (W:w.cell? ⟨q,(id-2).toNat*9,none⟩=some I) (ab:w.cell? ⟨q,(id-2).toNat*9+1,none⟩=some J) (ad:w.cell? ⟨q,(id-2).toNat*9+2,none⟩=some K)
  (am:w.cell? ⟨q,(id-2).toNat*9+3,none⟩=some L) (av:w.cell? ⟨q,(id-2).toNat*9+4,none⟩=some N) (aw:w.cell? ⟨q,(id-2).toNat*9+5,none⟩=some O)
  (a1:w.cell? ⟨q,(id-2).toNat*9+6,none⟩=some S) (a2:w.cell? ⟨q,(id-2).toNat*9+7,none⟩=some T) (a3:w.cell? ⟨q,(id-2).toNat*9+8,none⟩=some U)
  (bb:∀Z,w.frozen? ⟨q,Z,none⟩=false) (bs:q≠j) (bt:j≠q) (bv:s≠j) :
  Calls Tryz.prog 137 #[.pointer (some ⟨j,0,none⟩),.agg #[.int .u8 r.ad,.int .u8 r.I,.int .u8 r.J,.int .u8 r.lo.tag,.int .u32 r.lo.to,.int .u8 r.hi.tag,.int .u32 r.hi.to]] w fun e w'=>
   e=.returned (.tuple #[.int .u32 id,.bool true])∧∃z E,ae (fun k=>k=j) w z∧(∀cs,w.heap[j]?=some (.cells cs 194 (0,0))→z.heap[j]?=some (.cells ((cs.setIfInBounds 2 (.int .i64 (t+1))).setIfInBounds 1 (.slice (some ⟨s,0,none⟩) k A)) 194 (0,0)))∧w'=((cW z q ((id-2).toNat*9) (bZ (some r))).alloc E).drew:=by
 have Y:j<w.heap.size:=aD X
 have t:q<w.heap.size:=aD W
 have t:s<w.heap.size:=aD hid
 have t:j<w.heap.size+1:=by omega
 have t:q<w.heap.size+1:=by omega
 have q:s<w.heap.size+1:=by omega
 go_enter Tryz.func137,Tryz.ntmps137
 go_wp2
 go_quiet (fail)
 go_wp2
 go_region
 go_wp2
 go_ret2
 refine⟨rfl,?wW,?oO,?pA,?pB,?pC⟩
 case pC=>
  simp only[cW,bZ,fI,List.cons_append,List.nil_append];rfl
 case pA=>(exact up)
 case pB=>
  intro cs s;have q:((w.alloc (.cells #[.int .u8 r.ad,.int .u8 r.I,.int .u8 r.J,.int .u8 r.lo.tag,.int .u32 r.lo.to,.int .u8 r.hi.tag,.int .u32 r.hi.to] 134)).drewN nq).heap[j]?=some (.cells cs 194 (0,0)):=(Below.heap_alloc w _ j Y).trans s;exact heap_setCell_same _ j 1 _ _ _ (heap_setCell_same _ j 2 _ _ _ q)

theorem sK {F:Nat→Prop}{w:World}{j:Nat}{cs:List (Option Rec)}{gone:List Int}{J room:Int}(h:cO F w j cs gone J room)(id:Int)(hid:id≤4294967295)(N:look cs id=none) :
  Calls Tryz.prog 133 #[.pointer (some ⟨j,0,none⟩),.int .u32 id] w fun r w'=>
   r=.returned (.tuple #[.agg #[.int .u8 0,.int .u8 0,.int .u8 0,.int .u8 0,.int .u32 0,.int .u8 0,.int .u32 0],.bool false])∧aa w w':=by
 have E:=h.bx
 obtain⟨a,cap,z,L⟩:=h.cell
 refine vG j id w (fun t s=>?_)
 rcases xA N with q|⟨q,A⟩|⟨q,A,K⟩
 ·exact sU j id a cs.length cap t hid (s.cell z) E q
 ·exact sV j id a cs.length cap t q hid (s.cell z) E A
 ·obtain⟨I,rfl,_,_,J,_⟩:=L (by omega);exact sS j I id cs.length cap t q hid (s.cell z) E A (s.cell (J _ _ K 7 (by omega)))

theorem oK {F:Nat→Prop}{w:World}{q:Nat}{cs:List (Option Rec)}{gone:List Int}{j room:Int}(h:cO F w q cs gone j room)(id:Int)(hid:id≤4294967295)(r:Rec)(K:look cs id=some r) :
  Calls Tryz.prog 133 #[.pointer (some ⟨q,0,none⟩),.int .u32 id] w fun e w'=>
   e=.returned (.tuple #[.agg #[.int .u8 r.ad,.int .u8 r.I,.int .u8 r.J,.int .u8 r.lo.tag,.int .u32 r.lo.to,.int .u8 r.hi.tag,.int .u32 r.hi.to],.bool true])∧aa w w':=by
 have J:=h.bx
 obtain⟨a,cap,A,z⟩:=h.cell
 obtain⟨E,I,t⟩:=bL K
 obtain⟨s,rfl,_,_,j,_⟩:=z (by omega)
 have j:=j _ _ t
 exact vH q s id r w (fun z t=>oM q s id cs.length cap z E hid (t.cell A) J I (t.cell (j 7 (by omega))))
  (j 0 (by omega)) (j 1 (by omega)) (j 2 (by omega)) (j 3 (by omega)) (j 4 (by omega)) (j 5 (by omega)) (j 6 (by omega))

theorem lU {F:Nat→Prop}{w:World}{j:Nat}{cs:List (Option Rec)}{gone:List Int}{q room:Int}(h:cO F w j cs gone q room)(id:Int)(hid:id≤4294967295) :
  Calls Tryz.prog 133 #[.pointer (some ⟨j,0,none⟩),.int .u32 id] w fun e w'=>
   e=.returned (.tuple #[.agg #[.int .u8 (an (look cs id)).ad,.int .u8 (an (look cs id)).I,.int .u8 (an (look cs id)).J,.int .u8 (an (look cs id)).lo.tag,.int .u32 (an (look cs id)).lo.to,.int .u8 (an (look cs id)).hi.tag,.int .u32 (an (look cs id)).hi.to],.bool (eZ (look cs id))])∧aa w w':=by
 cases j:look cs id with
 |none=>exact sK h id hid j
 |some r=>exact oK h id hid r j

theorem sM {F:Nat→Prop}{w:World}{j:Nat}{cs:List (Option Rec)}{gone:List Int}{q room:Int}(h:cO F w j cs gone q room) :
  Calls Tryz.prog 65 #[.pointer (some ⟨j,0,none⟩)] w fun e w'=>e=.returned (.int .i64 q)∧w=w':=by
 obtain⟨⟨q,z,s,_⟩,_⟩:=h
 have t:=cell_of_row w j 2 _ _ _ s
 simp at t
 clear s
 go_enter Tryz.func65,Tryz.ntmps65
 go_wp2
 go_ret
 exact⟨rfl,rfl⟩

theorem sN (room:Int)(w:World)(j:0≤room)(q:room≤1048576) :
  Calls Tryz.prog 116 #[.int .i64 room] w fun e w'=>e=.returned (.tuple #[.pointer (some ⟨w.heap.size,0,none⟩),.int .u8 0])∧w'=w.alloc (.cells #[.slice none 0 0,.slice none 0 0,.int .i64 0,.int .i64 room] 194):=by
 go_enter Tryz.func116,Tryz.ntmps116
 go_wp2
 go_ret2
 exact⟨rfl,rfl⟩

def dN (gone:List Int)(len:Nat):Int:=match gone.getLast? with|some id=>id|none=>(len:Int)+2

def cV (cs:List (Option Rec))(gone:List Int)(r:Rec):List (Option Rec):=
 match gone.getLast? with|some id=>cs.set (id-2).toNat (some r)|none=>cs++[some r]

theorem Ab {cs:List (Option Rec)}{gone:List Int}{r:Rec}:cs.length≤(cV cs gone r).length:=by
 unfold cV;split<;>simp

theorem sP {F:Nat→Prop}{w:World}{j:Nat}{cs:List (Option Rec)}{gone:List Int}{q room:Int}(h:cO F w j cs gone q room)(r:Rec)(t:room≤q) :
  Calls Tryz.prog 137 #[.pointer (some ⟨j,0,none⟩),.agg #[.int .u8 r.ad,.int .u8 r.I,.int .u8 r.J,.int .u8 r.lo.tag,.int .u32 r.lo.to,.int .u8 r.hi.tag,.int .u32 r.hi.to]] w fun e w'=>
   e=.returned (.tuple #[.int .u32 0,.bool false])∧aa w w':=by
 obtain⟨⟨z,A,s,_⟩,_⟩:=h
 exact yV j r q room w (by rw[cell_of_row w j 2 _ _ _ s];rfl) (by rw[cell_of_row w j 3 _ _ _ s];rfl) t

theorem sO {F:Nat→Prop}{w:World}{j:Nat}{cs:List (Option Rec)}{gone:List Int}{S room:Int}(h:cO F w j cs gone S room)(r:Rec)(ca:r.ok)(cb:S<room) :
  Calls Tryz.prog 137 #[.pointer (some ⟨j,0,none⟩),.agg #[.int .u8 r.ad,.int .u8 r.I,.int .u8 r.J,.int .u8 r.lo.tag,.int .u32 r.lo.to,.int .u8 r.hi.tag,.int .u32 r.hi.to]] w fun e w'=>
   e=.returned (.tuple #[.int .u32 (dN gone cs.length),.bool true])∧ae F w w'∧cO (au F w w') w' j (cV cs gone r) gone.dropLast (S+1) room:=by
 have cD:=h.cell
 obtain⟨⟨U,cf,t,Z,O,a7,b2⟩,Y,cd,bq,br,am,bs,bt⟩:=h
 have a6:w.cell? ⟨j,0,none⟩=some U:=by rw[cell_of_row w j 0 _ _ _ t];rfl
 have av:w.cell? ⟨j,1,none⟩=some cf:=by rw[cell_of_row w j 1 _ _ _ t];rfl
 have bw:w.cell? ⟨j,2,none⟩=some (.int .i64 S):=by rw[cell_of_row w j 2 _ _ _ t];rfl
 have bx:w.cell? ⟨j,3,none⟩=some (.int .i64 room):=by rw[cell_of_row w j 3 _ _ _ t];rfl
 have a2:∀o,w.frozen? ⟨j,o,none⟩=false:=fun o=>frozen_of_row w j o _ _ t
 have b3:=aN t
 cases b7:gone.getLast? with
 |none=>
  have c6:gone=[]:=by simpa using b7
  subst c6;obtain⟨a5,a3,rfl,_⟩:=eO O
  have b9:U.ownBlock≠some j:=by
   intro e;obtain⟨aw,J⟩:=bM Z e;exact dq J t (by decide) rfl
  simp only[List.length_nil]at bq av;refine(yW j r U cs.length (cs.flatMap bZ) S room w a5 a3 a6 av bw bx cb am br (a2 0) (a2 2) Z (by omega) b9).mono ?_;rintro e w' ⟨rfl,g,cap,w1,L,E,I,a',ab,bb,rfl⟩;have I:=I _ t;simp at I;have a8:j<L.heap.size:=Nat.lt_of_lt_of_le b3 E.size;have b1:w1.heap[j]?=some (.cells #[U,.slice a5 0 a3,.int .i64 (S+1),.int .i64 room] 194 (0,0)):=(a'.block j a8 (fun e=>b9 e.symm)).trans I
  have c7:j≠g:=by
   intro e;obtain⟨aw,J⟩:=bM bb (k:=g) rfl;exact dq b1 J (by decide) e
  have be:ae F w w1:=(E.mono (fun k _ e=>by simpa[e]using Y)).cy a' (fun k q=>.inl (a7 k q));refine⟨by simp[dN],be.setCell (p:=⟨j,0,none⟩) (.inl Y) _,⟨⟨.slice (some ⟨g,0,none⟩) (cs.length+1) cap,.slice a5 0 a3,?_,?_,?_,?_,?_⟩,?_,?_,?_,?_,am,?_,?_⟩⟩;·exact heap_setCell_same _ j 0 _ _ _ b1
  ·have:=ae.br (F:=fun k=>k=j) (ae.setCell (F:=fun k=>k=j) (p:=⟨j,0,none⟩) (ae.refl _ w1) (Or.inl rfl) (.slice (some ⟨g,0,none⟩) (cs.length+1) cap)) (fun k q e=>c7 (by simp[Value.ownBlock]at q;omega)) bb;simpa[cV,List.flatMap_append]using this
  ·have:=World.ownsRow_nil (w1.setCell ⟨j,0,none⟩ (.slice (some ⟨g,0,none⟩) (cs.length+1) cap)) 0 50 1;obtain⟨a5,z⟩:=O;refine⟨by simp,?_⟩;rcases z with⟨z,_⟩|⟨X,W,b0,z,bi,T,bn⟩
   ·exact .inl ⟨by simpa using z,rfl⟩
   ·simp at z;obtain⟨rfl,rfl⟩:=z;have b4:X≠j:=dq T t (by decide);refine .inr ⟨X,a3,b0,rfl,bi,?_,by simpa using bn⟩;rw[heap_setCell_other _ _ _ _ b4]
    have c3:some X≠U.ownBlock:=by
     intro e;obtain⟨aw,J⟩:=bM Z e.symm;exact dq T J (by decide) rfl
    rw[a'.block X (Nat.lt_of_lt_of_le (aN T) E.size) c3,E.block X (aN T) b4];exact T
  ·intro k q;simp[Value.ownBlock]at q;subst q;rcases ab with ab|ab;·exact .inl (a7 _ ab)
   ·refine .inr ⟨Nat.le_trans E.size ab,?_⟩;obtain⟨aw,J⟩:=bM bb (k:=g) rfl;have:=aN J;rw[World.size_setCell];exact this
  ·intro k q;exact .inl (b2 k q)
  ·exact .inl Y
  ·simp[cV];omega
  ·simp[cV];omega
  ·omega
  ·intro id hid;simp at hid
  ·intro x s;simp[cV]at s;rcases s with s|rfl;·exact bt x s
   ·exact ca
 |some id=>
  obtain⟨gs,c8⟩:∃gs,gone=gs++[id]:=List.getLast?_eq_some_iff.1 b7;subst c8;obtain⟨c9,c'⟩:=bs id (by simp);obtain⟨d8,W,rfl,c5⟩:=eO O;obtain⟨N,rfl⟩:=c5 (by simp);obtain⟨a,cap,bv,cy⟩:=cD;obtain⟨A,rfl,a1,cx,dj,cS⟩:=cy (by omega);obtain rfl:U=.slice (some ⟨A,0,none⟩) cs.length cap:=by rw[a6]at bv;simpa using bv
  obtain⟨b0,b6⟩:=bM O (k:=N) rfl;have b5:N≠j:=dq b6 t (by decide);have db:(gs++[id]).length=gs.length+1:=by simp
  rw[db]at av O bq
  have da:w.cell? ⟨N,gs.length,none⟩=some (.int .u32 id):=by
   rw[O.cellAt gs.length (by omega)];simp
  have b8:(id-2).toNat<cs.length:=by omega
  obtain⟨c,U⟩:∃c,cs[(id-2).toNat]?=some c:=⟨_,List.getElem?_eq_getElem b8⟩;have dk:=dj _ _ U
  have c4:gs.length+1≤W:=by
   rcases O.2 with⟨ad,_⟩|⟨_,_,_,ad,_,_,bn,_⟩
   ·simp at ad
   ·simp at ad;omega
  have K:∀U,U<9→∃x,w.cell? ⟨A,(id-2).toNat*9+U,none⟩=some x:=fun U ab=>by
   rw[dk U ab];exact⟨_,List.getElem?_eq_getElem (by rw[kh];exact ab)⟩
  obtain⟨dB,cg⟩:=K 0 (by omega);obtain⟨d0,ch⟩:=K 1 (by omega);obtain⟨d1,ci⟩:=K 2 (by omega);obtain⟨d2,cj⟩:=K 3 (by omega);obtain⟨d3,cl⟩:=K 4 (by omega);obtain⟨d5,cn⟩:=K 5 (by omega);obtain⟨d6,co⟩:=K 6 (by omega);obtain⟨d7,cp⟩:=K 7 (by omega);obtain⟨ab,U⟩:=K 8 (by omega);refine(yU j A N r id gs.length cs.length cap W dB d0 d1 d2 d3 d5 d6 d7 ab S room w a6 av bw bx cb am br (a2 1) (a2 2) (by omega) c4 cd da c9 (by omega) c' cg ch ci cj cl cn co cp U cS a1 a1.symm b5).mono ?_;rintro e w' ⟨rfl,L,a4,E,I,rfl⟩;have I:=I _ t;simp at I;have bp:=iw A (bZ (some r)) ((id-2).toNat*9) L;have cq:=E.br (fun k q e=>a1 (by simp[Value.ownBlock]at q;omega)) Z;have cv:=jc bZ kh rfl cq (id-2).toNat b8 (some r);have a8:j<L.heap.size:=Nat.lt_of_lt_of_le b3 E.size;have be:ae F w (cW L A ((id-2).toNat*9) (bZ (some r))):=(E.mono (fun k _ e=>by simpa[e]using Y)).a' (bp.mono (fun k _ e=>by simpa[e]using cx));have bg:aa (cW L A ((id-2).toNat*9) (bZ (some r))) (((cW L A ((id-2).toNat*9) (bZ (some r))).alloc a4).drew):=((aa.refl _).alloc a4).drew;have c2:L.ownsRow 0 50 1 (.slice (some ⟨N,0,none⟩) (gs.length+1) W) (gs.length+1) ((gs++[id]).map (Value.int .u32)):=E.br (fun k q e=>b5 (by simp[Value.ownBlock]at q;omega)) O
  have c0:N≠A:=by
   obtain⟨aw,J⟩:=bM Z (k:=A) rfl;exact dq b6 J (by decide)
  have c1:=bp.br (fun k q e=>c0 (by simp[Value.ownBlock]at q;omega)) c2;refine⟨by simp[dN],(be.alloc a4).drew,⟨⟨.slice (some ⟨A,0,none⟩) cs.length cap,.slice (some ⟨N,0,none⟩) gs.length W,?_,?_,?_,?_,?_⟩,?_,?_,?_,?_,am,?_,?_⟩⟩;·exact bg.heap ((bp.block j a8 (fun e=>a1 e.symm)).trans I)
  ·have:=bg.br cv;simpa[cV]using this
  ·have ad:=bg.br c1;refine⟨by simp,?_⟩;rcases ad.2 with⟨z,_⟩|⟨X,j,ce,z,bi,T,bn,dl,dr,ds⟩
   ·simp at z
   ·simp at z;obtain⟨rfl,rfl⟩:=z;refine .inr ⟨N,W,ce,by simp,bi,T,by simp;omega,dl,dr,?_⟩;have:=congrArg (List.take gs.length) ds;rw[List.take_take]at this;simpa[Nat.min_eq_left]using this
  ·intro k q;exact .inl (a7 k q)
  ·intro k q;exact .inl (b2 k (by simpa[Value.ownBlock]using q))
  ·exact .inl Y
  ·simp[cV];omega
  ·simp[cV];omega
  ·omega
  ·intro x s;simp at s;have:=bs x (by simp[s]);simpa[cV]using this
  ·intro x s;simp[cV]at s;rcases List.mem_or_eq_of_mem_set s with s|s;·exact bt x s
   ·simp at s;rw[s];exact ca

structure St where
 cs:List (Option Rec)
 gone:List Int
 n:Int
 room:Int

def St.len (M:St):Int:=(M.cs.length:Int)-(M.gone.length:Int)

def St.b4 (M:St)(r:Rec):Option Int:=(M.cs.findIdx? (fun o=>decide (o=some r))).map (fun i=>(i:Int)+2)

def St.leads (M:St)(f:Int)(e:Edge)(l:Int):Bool:=
 dY f e l M.n&&(decide (e.to<2)||match look M.cs e.to with
  |some r=>r.ad==f&&decide (l≤r.I)&&decide (e.tag≤r.I)
  |none=>false)

def St.bq (M:St)(r:Rec):Bool:=!gU r M.n||!M.leads r.ad r.lo (r.J+1)||!M.leads r.ad r.hi (r.J+1)

def St.bg (M:St)(r:Rec):Int:=
 match M.b4 r with
 |some id=>id
 |none=>if M.bq r then 0 else if M.room≤M.len then 0 else dN M.gone M.cs.length

def St.a7 (M:St)(r:Rec):Int:=
 match M.b4 r with
 |some _=>0
 |none=>if M.bq r then 1 else if M.room≤M.len then 6 else 0

def St.a6 (M:St)(r:Rec):St:=
 match M.b4 r with
 |some _=>M
 |none=>if M.bq r then M else if M.room≤M.len then M else { M with cs:=cV M.cs M.gone r,gone:=M.gone.dropLast }

theorem gR {cs:List (Option Rec)}{i:Nat}{r:Rec}:look cs ((i:Int)+2)=some r↔cs[i]?=some (some r):=by
 have j:¬(i:Int)+2<2:=by omega
 have q:((i:Int)+2-2).toNat=i:=by omega
 unfold look;rw[if_neg j,q];cases h:cs[i]? with
 |none=>simp
 |some x=>simp

theorem jA {M:St}{r:Rec}{id:Int}(h:M.b4 r=some id):look M.cs id=some r:=by
 unfold St.b4 at h;cases j:M.cs.findIdx? (fun o=>decide (o=some r))with
 |none=>rw[j]at h;simp at h
 |some i=>
  rw[j]at h;simp at h;obtain⟨hi,q,_⟩:=List.findIdx?_eq_some_iff_getElem.1 j;subst h;rw[gR,List.getElem?_eq_getElem hi];simpa using q

theorem mw {M:St}{r:Rec}(h:M.b4 r=none)(id:Int):look M.cs id≠some r:=by
 intro t;obtain⟨z,A,q⟩:=bL t;unfold St.b4 at h
 have j:M.cs.findIdx? (fun o=>decide (o=some r))=none:=by
  cases s:M.cs.findIdx? (fun o=>decide (o=some r))with
  |none=>rfl
  |some i=>rw[s]at h;simp at h
 rw[List.findIdx?_eq_none_iff]at j;have:=j (some r) (List.mem_of_getElem? q);simp at this

def St.b2 (M:St):Prop:=∀r id j,look M.cs id=some r→look M.cs j=some r→id=j

theorem jz {M:St}(h:M.b2)(r:Rec)(id:Int):look M.cs id=some r↔M.b4 r=some id:=by
 constructor
 ·intro j;cases hi:M.b4 r with
  |none=>exact(mw hi id j).elim
  |some q=>rw[h r id q j (jA hi)]
 ·exact jA

theorem pX {cs:List (Option Rec)}{gone:List Int}{r:Rec}(E:∀id∈gone,2≤id∧id-2<(cs.length:Int)∧look cs id=none)(id:Int)(q:Rec) :
  look (cV cs gone r) id=some q↔(id=dN gone cs.length∧q=r)∨look cs id=some q:=by
 unfold cV dN
 cases J:gone.getLast? with
 |none=>
  simp only[];constructor
  ·intro h;obtain⟨t,s,j⟩:=bL h;by_cases A:(id-2).toNat<cs.length
   ·right;rw[List.getElem?_append_left A]at j;have:=gR.2 j;rwa[show(((id-2).toNat:Nat):Int)+2=id by omega]at this
   ·left;rw[List.getElem?_append_right (by omega)]at j;simp at s;have e:(id-2).toNat-cs.length=0:=(by omega);rw[e]at j;simp at j;exact⟨by omega,j.symm⟩
  ·rintro(⟨rfl,rfl⟩|h);·rw[gR];simp
   ·obtain⟨t,s,j⟩:=bL h;have:=(gR (cs:=cs++[some r]) (i:=(id-2).toNat) (r:=q)).2 (by rw[List.getElem?_append_left (by omega)];exact j);rwa[show(((id-2).toNat:Nat):Int)+2=id by omega]at this
 |some x=>
  simp only[];obtain⟨gs,I⟩:=List.getLast?_eq_some_iff.1 J;obtain⟨A,J,L⟩:=E x (by rw[I];simp);have z:(x-2).toNat<cs.length:=by omega
  constructor
  ·intro h;obtain⟨t,s,j⟩:=bL h;rw[List.getElem?_set]at j;split at j
   ·rename_i A;left;simp[z]at j;exact⟨by omega,j.symm⟩
   ·right;have:=gR.2 j;rwa[show(((id-2).toNat:Nat):Int)+2=id by omega]at this
  ·rintro(⟨rfl,rfl⟩|h)
   ·have:=(gR (cs:=cs.set (id-2).toNat (some q)) (i:=(id-2).toNat) (r:=q)).2 (by simp[z]);rwa[show(((id-2).toNat:Nat):Int)+2=id by omega]at this
   ·obtain⟨t,s,j⟩:=bL h
    have K:(x-2).toNat≠(id-2).toNat:=by
     intro e;have:x=id:=(by omega);subst this;rw[L]at h;cases h
    have:=(gR (cs:=cs.set (x-2).toNat (some r)) (i:=(id-2).toNat) (r:=q)).2 (by rw[List.getElem?_set,if_neg K];exact j);rwa[show(((id-2).toNat:Nat):Int)+2=id by omega]at this

structure St.wf (M:St):Prop where
 n0:0≤M.n
 bw:M.n≤16
 gone:∀id∈M.gone,2≤id∧id-2<(M.cs.length:Int)∧look M.cs id=none
 gj:M.gone.Nodup
 c6:∀id r,look M.cs id=some r→M.bq r=false
 b2:M.b2
 g5:0≤M.len
 hA:0≤M.room
 gp:M.room≤1048576
 cx:M.len≤M.room

theorem mF {M M':St}(t:M'.n=M.n)(s:∀id r,look M.cs id=some r→look M'.cs id=some r){f:Int}{e:Edge}{l:Int}(h:M.leads f e l=true):M'.leads f e l=true:=by
 unfold St.leads at h ⊢;rw[t];simp only[Bool.and_eq_true,Bool.or_eq_true]at h ⊢;refine⟨h.1,?_⟩;rcases h.2 with j|j;·exact .inl j
 ·right;cases q:look M.cs e.to with
  |none=>rw[q]at j;simp at j
  |some r=>rw[s _ _ q];rw[q]at j;exact j

theorem oO {M M':St}(j:M'.n=M.n)(q:∀id r,look M.cs id=some r→look M'.cs id=some r){r:Rec}(h:M.bq r=false):M'.bq r=false:=by
 unfold St.bq at h ⊢;simp only[Bool.or_eq_false_iff,Bool.not_eq_false']at h ⊢;exact⟨⟨by rw[j];exact h.1.1,mF j q h.1.2⟩,mF j q h.2⟩

theorem qH {cs:List (Option Rec)}{gone:List Int}{r:Rec}:((cV cs gone r).length:Int)-(gone.dropLast.length:Int)=(cs.length:Int)-(gone.length:Int)+1:=by
 unfold cV;cases j:gone.getLast? with
 |none=>
  have:gone=[]:=by simpa using j
  subst this;simp
 |some x=>
  obtain⟨gs,q⟩:=List.getLast?_eq_some_iff.1 j;subst q;simp;omega

theorem nc {cs:List (Option Rec)}{gone:List Int}(s:∀id∈gone,2≤id∧id-2<(cs.length:Int)∧look cs id=none):2≤dN gone cs.length∧dN gone cs.length≤(cs.length:Int)+2∧look cs (dN gone cs.length)=none:=by
 unfold dN;cases A:gone.getLast? with
 |none=>
  refine⟨by simp only[];omega,by simp only[];omega,?_⟩;simp only[];cases z:look cs ((cs.length:Int)+2)with
  |none=>rfl
  |some r=>have:=bL z;omega
 |some x=>
  obtain⟨gs,t⟩:=List.getLast?_eq_some_iff.1 A;obtain⟨j,z,q⟩:=s x (by rw[t];simp);exact⟨j,by simp only[];omega,q⟩

def St.add (M:St)(r:Rec):St:={ M with cs:=cV M.cs M.gone r,gone:=M.gone.dropLast }

theorem St.wf.fi {M:St}(h:M.wf)(r:Rec)(id:Int)(j:Rec):look (M.add r).cs id=some j↔(id=dN M.gone M.cs.length∧j=r)∨look M.cs id=some j:=pX h.gone id j

theorem St.fg (M:St)(r:Rec):(M.add r).len=M.len+1:=qH

theorem St.wf.add {M:St}(h:M.wf){r:Rec}(N:M.b4 r=none)(X:M.bq r=false)(T:M.len<M.room):(M.add r).wf:=by
 have q:=h.fi r;have O:∀id j,look M.cs id=some j→look (M.add r).cs id=some j:=fun id j T=>(q id j).2 (.inr T);have T:=M.fg r;refine⟨h.n0,h.bw,?_,?_,?_,?_,?_,h.hA,h.gp,?_⟩
 ·intro id hid;replace hid:id∈M.gone.dropLast:=hid;have J:id∈M.gone:=(List.dropLast_sublist _).mem hid;obtain⟨T,Z,U⟩:=h.gone id J;refine⟨T,?_,?_⟩
  ·have:=@Ab M.cs M.gone r;show id-2<((cV M.cs M.gone r).length:Int);omega
  ·cases s:look (M.add r).cs id with
   |none=>rfl
   |some j=>
    exfalso;rcases(q id j).1 s with⟨e,_⟩|e
    ·cases I:M.gone.getLast? with
     |none=>
      have:M.gone=[]:=(by simpa using I);rw[this]at J;simp at J
     |some x=>
      have Y:dN M.gone M.cs.length=x:=(by unfold dN;rw[I]);obtain⟨gs,J⟩:=List.getLast?_eq_some_iff.1 I;have K:=h.gj;rw[J]at K hid;simp at hid;rw[List.nodup_append]at K;exact K.2.2 id hid x (by simp) (e.trans Y)
    ·rw[U]at e;cases e
 ·exact List.Nodup.sublist (List.dropLast_sublist _) h.gj
 ·intro id j s;rcases(q id j).1 s with⟨_,rfl⟩|s
  ·exact oO (M:=M) (M':=M.add j) rfl O X
  ·exact oO (M:=M) (M':=M.add r) rfl O (h.c6 id j s)
 ·intro j id z W L;rcases(q id j).1 W with⟨S,A⟩|E
  ·rcases(q z j).1 L with⟨s,_⟩|t
   ·rw[S,s]
   ·rw[A]at t;exact(mw N z t).elim
  ·rcases(q z j).1 L with⟨_,A⟩|t
   ·rw[A]at E;exact(mw N id E).elim
   ·exact h.b2 j id z E t
 ·have:=h.g5;omega
 ·show(M.add r).len≤M.room;omega

theorem St.wf.g0 {M:St}(h:M.wf)(r:Rec):(M.a6 r).wf:=by
 unfold St.a6;cases hi:M.b4 r with
 |some id=>exact h
 |none=>
  simp only[];split;·exact h
  ·split;·exact h
   ·exact h.add hi (by simpa using ‹¬M.bq r=true›) (by omega)

open Go.Sort

def lJ (cs:List (Option Rec))(j:Int→Prop):Prop:=
 ∀id r,j id→look cs id=some r→(look cs r.lo.to≠none→j r.lo.to)∧(look cs r.hi.to≠none→j r.hi.to)

def Reaches (cs:List (Option Rec))(roots:List Int)(id:Int):Prop:=
 ∀j:Int→Prop,(∀e∈roots,look cs e≠none→j e)→lJ cs j→j id

theorem Reaches.root {cs:List (Option Rec)}{roots:List Int}{id:Int}(h:id∈roots)(q:look cs id≠none):Reaches cs roots id:=fun _ j _=>j id h q

theorem Reaches.closed (cs:List (Option Rec))(roots:List Int):lJ cs (Reaches cs roots):=
 fun id r h t=>⟨fun s q hS j=>((j id r (h q hS j) t).1 s),fun s q hS j=>((j id r (h q hS j) t).2 s)⟩

theorem Reaches.some {cs:List (Option Rec)}{roots:List Int}{id:Int}(h:Reaches cs roots id):look cs id≠none:=
 h (fun x=>look cs x≠none) (fun _ _ h=>h) (fun _ _ _ _=>⟨fun h=>h,fun h=>h⟩)

theorem Reaches.mono {cs:List (Option Rec)}{a b:List Int}(h:∀x∈a,x∈b){id:Int}(s:Reaches cs a id):Reaches cs b id:=
 fun j hS q=>s j (fun e j s=>hS e (h e j) s) q

theorem Reaches.below {cs:List (Option Rec)}{a b:List Int}(h:∀x∈a,look cs x≠none→Reaches cs b x){id:Int}(s:Reaches cs a id):Reaches cs b id:=
 fun j hS q=>s j (fun e s t=>h e s t j hS q) q

structure eJ (cs:List (Option Rec))(e:Int)(S T:List Int):Prop where
 dk:look cs e≠none→e∈S++T
 e2:∀id∈T,∀r,look cs id=some r→(look cs r.lo.to≠none→r.lo.to∈S++T)∧(look cs r.hi.to≠none→r.hi.to∈S++T)
 fb:∀id∈T,Reaches cs [e] id
 b2:T.Nodup
 apart:∀id∈T,id∉S

theorem eJ.none {cs:List (Option Rec)}{e:Int}{j:List Int}(h:look cs e=none):eJ cs e j []:=
 ⟨fun q=>absurd h q,by simp,by simp,by simp,by simp⟩

theorem eJ.hq {cs:List (Option Rec)}{e:Int}{j:List Int}(h:e∈j):eJ cs e j []:=
 ⟨fun _=>by simpa using h,by simp,by simp,by simp,by simp⟩

theorem eJ.f' {cs:List (Option Rec)}{e:Int}{r:Rec}{s t E:List Int}(I:look cs e=some r)(W:e∉s)(j:eJ cs r.lo.to (s++[e]) t)(q:eJ cs r.hi.to (s++[e]++t) E):eJ cs e s (e::(t++E)):=by
 have O:s++e::(t++E)=s++[e]++t++E:=by simp
 have J:Reaches cs [e] e:=Reaches.root (by simp) (by rw[I];simp);refine⟨fun _=>by simp,?_,?_,?_,?_⟩
 ·intro id hid N z;rw[O];rcases List.mem_cons.1 hid with rfl|hid
  ·rw[I]at z;cases z;exact⟨fun h=>List.mem_append_left _ (j.dk h),fun h=>q.dk h⟩
  ·rcases List.mem_append.1 hid with hid|hid;·exact⟨fun h=>List.mem_append_left _ ((j.e2 id hid N z).1 h),fun h=>List.mem_append_left _ ((j.e2 id hid N z).2 h)⟩
   ·exact q.e2 id hid N z
 ·intro id hid;rcases List.mem_cons.1 hid with rfl|hid;·exact J
  ·rcases List.mem_append.1 hid with hid|hid;·exact(j.fb id hid).below (fun x A L=>by rw[List.mem_singleton]at A;subst A;exact(Reaches.closed cs [e] e r J I).1 L)
   ·exact(q.fb id hid).below (fun x A L=>by rw[List.mem_singleton]at A;subst A;exact(Reaches.closed cs [e] e r J I).2 L)
 ·refine List.nodup_cons.2 ⟨?_,List.nodup_append.2 ⟨j.b2,q.b2,?_⟩⟩
  ·intro hm;rcases List.mem_append.1 hm with hm|hm;·exact j.apart e hm (by simp)
   ·exact q.apart e hm (by simp)
  ·intro a S b U T;subst T;exact q.apart a U (List.mem_append_right _ S)
 ·intro id hid K;rcases List.mem_cons.1 hid with rfl|hid;·exact W K
  ·rcases List.mem_append.1 hid with hid|hid;·exact j.apart id hid (by simp[K])
   ·exact q.apart id hid (by simp[K])

structure eX (cs:List (Option Rec))(es:List Int)(S:List Int):Prop where
 dk:∀e∈es,look cs e≠none→e∈S
 e2:lJ cs (fun id=>id∈S)
 fb:∀id∈S,Reaches cs es id
 b2:S.Nodup

theorem eX.nil (cs:List (Option Rec)):eX cs [] []:=⟨by simp,fun _ _ h=>by simp at h,by simp,by simp⟩

theorem eX.step {cs:List (Option Rec)}{es t z:List Int}{e:Int}(h:eX cs es t)(s:eJ cs e t z):eX cs (es++[e]) (t++z):=by
 refine⟨?_,?_,?_,?_⟩
 ·intro x j q;rcases List.mem_append.1 j with j|j;·exact List.mem_append_left _ (h.dk x j q)
  ·rw[List.mem_singleton]at j;subst j;exact s.dk q
 ·intro id r hid q;rcases List.mem_append.1 hid with hid|hid;·exact⟨fun t=>List.mem_append_left _ ((h.e2 id r hid q).1 t),fun t=>List.mem_append_left _ ((h.e2 id r hid q).2 t)⟩
  ·exact s.e2 id hid r q
 ·intro id hid;rcases List.mem_append.1 hid with hid|hid;·exact(h.fb id hid).mono (fun x j=>List.mem_append_left _ j)
  ·exact(s.fb id hid).mono (fun x j=>List.mem_append_right _ j)
 ·refine List.nodup_append.2 ⟨h.b2,s.b2,?_⟩;intro a A b I E;subst E;exact s.apart a I A

theorem eX.e8 {cs:List (Option Rec)}{es j:List Int}(h:eX cs es j)(id:Int):id∈j↔Reaches cs es id:=
 ⟨h.fb id,fun q=>q (fun x=>x∈j) (fun e q s=>h.dk e q s) h.e2⟩

noncomputable def aQ (cs:List (Option Rec))(roots:List Int):List Int:=
 letI:=Classical.propDecidable
 ((List.range cs.length).map (fun i:Nat=>(i:Int)+2)).filter (fun id=>decide (Reaches cs roots id))

theorem eL {cs:List (Option Rec)}{roots:List Int}{id:Int}:id∈aQ cs roots↔Reaches cs roots id:=by
 unfold aQ;rw[List.mem_filter];simp only[decide_eq_true_eq];refine⟨fun h=>h.2,fun h=>⟨?_,h⟩⟩;cases j:look cs id with
 |none=>exact absurd j h.some
 |some r=>
  obtain⟨q,s,_⟩:=bL j;exact List.mem_map.2 ⟨(id-2).toNat,List.mem_range.2 (by omega),by omega⟩

theorem iX (cs:List (Option Rec))(roots:List Int):(aQ cs roots).Pairwise (·<·):=by
 unfold aQ;refine List.Pairwise.filter _ (List.pairwise_map.2 (List.Pairwise.imp (R:=(·<·)) ?_ List.pairwise_lt_range));intro a b h;omega

theorem nK:∀{a b:List Int},a.Pairwise (·<·)→b.Pairwise (·<·)→(∀x,x∈a↔x∈b)→a=b
 |[],[],_,_,_=>rfl
 |[],y::b,_,_,h=>by have:=(h y).2 (by simp);simp at this
 |x::a,[],_,_,h=>by have:=(h x).1 (by simp);simp at this
 |x::a,y::b,K,L,h=>by
  obtain⟨A,I⟩:=List.pairwise_cons.1 K;obtain⟨E,J⟩:=List.pairwise_cons.1 L
  have e:x=y:=by
   have j:=(h x).1 (by simp);have q:=(h y).2 (by simp);rcases List.mem_cons.1 j with j|j;·exact j
   ·rcases List.mem_cons.1 q with q|q;·exact q.symm
    ·have:=E x j;have:=A y q;omega
  subst e;congr 1
  refine nK I J fun t=>⟨fun s=>?_,fun s=>?_⟩
  ·rcases List.mem_cons.1 ((h t).1 (List.mem_cons_of_mem _ s))with e|z;·subst e;have:=A t s;omega
   ·exact z
  ·rcases List.mem_cons.1 ((h t).2 (List.mem_cons_of_mem _ s))with e|z;·subst e;have:=E t s;omega
   ·exact z

theorem rn {cs:List (Option Rec)}{roots s:List Int}{d d':Array Int}(h:eX cs roots s)(K:d.toList.Perm s)(S:PermIn 0 d.size d d')(T:SortedIn ltInt 0 d.size d'):d'.toList=aQ cs roots:=by
 obtain⟨t,s,z⟩:=S;have E:d.extract 0 d.size=d:=by simp
 have I:d'.extract 0 d.size=d':=by rw[←t];simp
 rw[E,I]at z;have A:=z.trans K;have O:d'.toList.Nodup:=A.nodup_iff.2 h.b2;refine nK ?_ (iX _ _) fun x=>?_
 ·rw[List.pairwise_iff_getElem];intro i j hi q s;have J:=T i j (Nat.zero_le _) s (by rw[←t];simpa using q);have L:i<d'.size:=by simpa using hi
  have N:j<d'.size:=by simpa using q
  simp only[ltInt,getElem!_pos d' i L,getElem!_pos d' j N,decide_eq_false_iff_not]at J
  have s:d'[i]≠d'[j]:=fun e=>by
   have:=(List.getElem_inj (h₀:=hi) (h₁:=q) O).1 (by simpa using e);omega
  simp only[Array.getElem_toList];omega
 ·rw[A.mem_iff,h.e8,eL]

structure jh (M:St)(r:Rec):Prop where
 f1:1≤r.ad
 f5:r.ad≤5
 tb:r.I≤r.J
 bn:r.J<M.n
 chain:r.I=r.J∨eY r.ad=true
 lo:M.leads r.ad r.lo (r.J+1)=true
 hi:M.leads r.ad r.hi (r.J+1)=true
 zero:r.ad=2∨r.ad=4→r.hi.to≠0
 apart:r.ad≠2→r.ad≠4→r.lo≠r.hi

theorem pj {M:St}{r:Rec}(h:M.bq r=false):jh M r:=by
 unfold St.bq at h;simp only[Bool.or_eq_false_iff,Bool.not_eq_false']at h;obtain⟨⟨j,z⟩,A⟩:=h;unfold gU at j;split at j;·cases j
 ·rename_i q;simp only[Bool.or_eq_true,Bool.and_eq_true,Bool.not_eq_true',decide_eq_true_eq,not_or,not_and,bne_iff_ne,ne_eq,Bool.not_eq_false]at q;obtain⟨⟨⟨⟨q,_⟩,J⟩,K⟩,t⟩:=q;have q:bG r.ad=true:=by cases h:bG r.ad<;>simp_all
  unfold bG at q;simp only[Bool.and_eq_true,decide_eq_true_eq]at q;split at j;·cases j
  ·refine⟨by omega,by omega,by omega,by omega,?_,z,A,?_,?_⟩
   ·by_cases s:r.I=r.J;·exact .inl s
    ·exact .inr (t s)
   ·intro q;have:(r.ad==2||r.ad==4)=true:=(by simpa using q);rw[if_pos this]at j;simpa using j
   ·intro E I s;have:¬(r.ad==2||r.ad==4)=true:=(by simp[E,I]);rw[if_neg this,s]at j;simp at j

theorem St.wf.b8 {M:St}(h:M.wf){id:Int}{r:Rec}(j:look M.cs id=some r):jh M r:=pj (h.c6 id r j)

theorem gQ {M:St}{f:Int}{e:Edge}{l:Int}(h:M.leads f e l=true):dY f e l M.n=true∧(e.to<2∨∃r,look M.cs e.to=some r∧r.ad=f∧l≤r.I∧e.tag≤r.I):=by
 unfold St.leads at h;simp only[Bool.and_eq_true,Bool.or_eq_true,decide_eq_true_eq]at h;refine⟨h.1,?_⟩;rcases h.2 with j|j;·exact .inl j
 ·right;cases q:look M.cs e.to with
  |none=>rw[q]at j;cases j
  |some r=>
   rw[q]at j;simp only[Bool.and_eq_true,decide_eq_true_eq,beq_iff_eq]at j;exact⟨r,rfl,j.1.1,j.1.2,j.2⟩

theorem oY {M:St}(h:M.wf){id:Int}{r j:Rec}(A:look M.cs id=some r){e:Edge}(t:e=r.lo∨e=r.hi)(q:look M.cs e.to=some j):r.I<j.I∧j.ad=r.ad:=by
 have g:=h.b8 A;have j:=(bL q).1;have E:M.leads r.ad e (r.J+1)=true:=by rcases t with rfl|rfl;exact g.lo;exact g.hi
 rcases(gQ E).2 with j|⟨x,s,z,j,_⟩;·omega
 ·rw[q]at s;cases s;have:=g.tb;exact⟨by omega,z⟩

end Go.Proofs.YtafkamlhimkbmaaGreat
