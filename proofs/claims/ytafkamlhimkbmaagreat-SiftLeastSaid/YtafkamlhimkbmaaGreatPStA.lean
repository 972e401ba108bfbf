/-
  Walks of package arena.
-/
import Derived.Test.YtafkamlhimkbmaaGreatPFindA
import Derived.Sort.AssemblyPlain
namespace Go.Proofs.YtafkamlhimkbmaaGreat
set_option maxRecDepth 1000000
set_option maxHeartbeats 8000000
set_option linter.unusedSimpArgs false
set_option linter.unusedVariables false
open Go.RowKit

theorem so (j:Nat)(id:Int)(cs:Option Addr)(len cap:Nat)(w:World)(s:id≤4294967295)
  (t:w.cell? ⟨j,0,none⟩=some (.slice cs len cap)) (z:len≤1048576) (h:id<2) :
  Calls Tryz.prog 198 #[.pointer (some ⟨j,0,none⟩),.int .u32 id] w fun r q=>r=.returned (.pointer none)∧w=q:=by
 go_enter Tryz.func198,Tryz.ntmps198
 go_wp2
 go_ret
 exact⟨rfl,rfl⟩

theorem sq (j:Nat)(id:Int)(cs:Option Addr)(len cap:Nat)(w:World)(s:2≤id)(t:id≤4294967295)
  (z:w.cell? ⟨j,0,none⟩=some (.slice cs len cap)) (A:len≤1048576) (h:(len:Int)≤id-2) :
  Calls Tryz.prog 198 #[.pointer (some ⟨j,0,none⟩),.int .u32 id] w fun r q=>r=.returned (.pointer none)∧w=q:=by
 go_enter Tryz.func198,Tryz.ntmps198
 go_wp2
 go_ret
 exact⟨rfl,rfl⟩

theorem sm (j q:Nat)(id:Int)(len cap:Nat)(w:World)(t:2≤id)(z:id≤4294967295)
  (A:w.cell? ⟨j,0,none⟩=some (.slice (some ⟨q,0,none⟩) len cap)) (I:len≤1048576) (h:id-2<(len:Int))
  (E:w.cell? ⟨q,(id-2).toNat*9+7,none⟩=some (.bool false)) :
  Calls Tryz.prog 198 #[.pointer (some ⟨j,0,none⟩),.int .u32 id] w fun r s=>r=.returned (.pointer none)∧w=s:=by
 go_enter Tryz.func198,Tryz.ntmps198
 go_wp2
 go_ret
 exact⟨rfl,rfl⟩

theorem og (q j:Nat)(id:Int)(len cap:Nat)(w:World)(t:2≤id)(z:id≤4294967295)
  (A:w.cell? ⟨q,0,none⟩=some (.slice (some ⟨j,0,none⟩) len cap)) (I:len≤1048576) (h:id-2<(len:Int))
  (E:w.cell? ⟨j,(id-2).toNat*9+7,none⟩=some (.bool true)) :
  Calls Tryz.prog 198 #[.pointer (some ⟨q,0,none⟩),.int .u32 id] w fun r s=>r=.returned (.pointer (some ⟨j,(id-2).toNat*9,none⟩))∧w=s:=by
 go_enter Tryz.func198,Tryz.ntmps198
 go_wp2
 go_ret
 exact⟨rfl,rfl⟩

theorem uW (s:Nat)(id:Int)(w:World)
  (t:∀q,aa w q→Calls Tryz.prog 198 #[.pointer (some ⟨s,0,none⟩),.int .u32 id] q fun r j=>r=.returned (.pointer none)∧q=j) :
  Calls Tryz.prog 133 #[.pointer (some ⟨s,0,none⟩),.int .u32 id] w fun r j=>
   r=.returned (.tuple #[.agg #[.int .u8 0,.int .u8 0,.int .u8 0,.int .u8 0,.int .u32 0,.int .u8 0,.int .u32 0],.bool false])∧aa w j:=by
 have H:=Lib.hid t
 clear t
 go_enter Tryz.func133,Tryz.ntmps133
 go_wp2_with (first|(refine(H.out _ (by(exact kp))).mono ?_;rintro e j ⟨rfl,rfl⟩)|fail)
 refine bodyPost_ret (v:=.tuple #[.agg #[.int .u8 0,.int .u8 0,.int .u8 0,.int .u8 0,.int .u32 0,.int .u8 0,.int .u32 0],.bool false]) (by simp[results,Tryz.results133,go_sem]) rfl ⟨rfl,by(exact kp)⟩

theorem uX (t j:Nat)(id:Int)(r:Rec)(w:World)
  (z:∀s,aa w s→Calls Tryz.prog 198 #[.pointer (some ⟨t,0,none⟩),.int .u32 id] s fun r q=>r=.returned (.pointer (some ⟨j,(id-2).toNat*9,none⟩))∧s=q)
  (A:w.cell? ⟨j,(id-2).toNat*9,none⟩=some (.int .u8 r.ad)) (I:w.cell? ⟨j,(id-2).toNat*9+1,none⟩=some (.int .u8 r.I))
  (J:w.cell? ⟨j,(id-2).toNat*9+2,none⟩=some (.int .u8 r.J)) (K:w.cell? ⟨j,(id-2).toNat*9+3,none⟩=some (.int .u8 r.lo.tag))
  (L:w.cell? ⟨j,(id-2).toNat*9+4,none⟩=some (.int .u32 r.lo.to)) (N:w.cell? ⟨j,(id-2).toNat*9+5,none⟩=some (.int .u8 r.hi.tag))
  (O:w.cell? ⟨j,(id-2).toNat*9+6,none⟩=some (.int .u32 r.hi.to)) :
  Calls Tryz.prog 133 #[.pointer (some ⟨t,0,none⟩),.int .u32 id] w fun e q=>
   e=.returned (.tuple #[.agg #[.int .u8 r.ad,.int .u8 r.I,.int .u8 r.J,.int .u8 r.lo.tag,.int .u32 r.lo.to,.int .u8 r.hi.tag,.int .u32 r.hi.to],.bool true])∧aa w q:=by
 have H:=Lib.hid z
 clear z
 have E:=aD A
 dsimp only at E
 have s:j≠w.heap.size:=by omega
 go_enter Tryz.func133,Tryz.ntmps133
 go_wp2_with (first|(refine(H.out _ (by(exact kp))).mono ?_;rintro e q ⟨rfl,rfl⟩)|fail)
 go_outline
 refine bodyPost_ret (v:=.tuple #[.agg #[.int .u8 r.ad,.int .u8 r.I,.int .u8 r.J,.int .u8 r.lo.tag,.int .u32 r.lo.to,.int .u8 r.hi.tag,.int .u32 r.hi.to],.bool true]) (by simp[results,Tryz.results133,go_sem]) rfl ⟨rfl,by(exact kp)⟩

theorem yB (j:Nat)(r:Rec)(q room:Int)(w:World) 
  (s:w.cell? ⟨j,2,none⟩=some (.int .i64 q)) (z:w.cell? ⟨j,3,none⟩=some (.int .i64 room)) (A:room≤q) :
  Calls Tryz.prog 137 #[.pointer (some ⟨j,0,none⟩),.agg #[.int .u8 r.ad,.int .u8 r.I,.int .u8 r.J,.int .u8 r.lo.tag,.int .u32 r.lo.to,.int .u8 r.hi.tag,.int .u32 r.hi.to]] w fun e t=>
   e=.returned (.tuple #[.int .u32 0,.bool false])∧aa w t:=by
 have q:j<w.heap.size:=aD s
 go_enter Tryz.func137,Tryz.ntmps137
 go_wp2
 go_quiet (fail)
 go_wp2
 go_ret2
 exact⟨rfl,by(exact kp)⟩

theorem vM:(Tryz.prog.info? 271).map (fun i=>(i.zero,i.size,i.bytes))=some (some (.agg #[.int .u8 0,.int .u8 0,.int .u8 0,.int .u8 0,.int .u32 0,.int .u8 0,.int .u32 0,.bool false,.int .i64 0]),9,32):=by kernel_rfl

theorem yC (j:Nat)(r:Rec)(q:Value)(n:Nat)(xs:List Value)(s room:Int)(w:World)(U:Option Addr)(W:Nat)
  (Y:w.cell? ⟨j,0,none⟩=some q) (a3:w.cell? ⟨j,1,none⟩=some (.slice U 0 W))
  (Z:w.cell? ⟨j,2,none⟩=some (.int .i64 s)) (a4:w.cell? ⟨j,3,none⟩=some (.int .i64 room)) (a7:s<room) (a':room≤1048576) (a5:0≤s)
  (ab:w.frozen? ⟨j,0,none⟩=false) (a6:w.frozen? ⟨j,2,none⟩=false)
  (I:w.ownsRow 0 271 9 q n xs) (a8:n<1048576) (N:q.ownBlock≠some j) :
  Calls Tryz.prog 137 #[.pointer (some ⟨j,0,none⟩),.agg #[.int .u8 r.ad,.int .u8 r.I,.int .u8 r.J,.int .u8 r.lo.tag,.int .u32 r.lo.to,.int .u8 r.hi.tag,.int .u32 r.hi.to]] w fun e a2=>
   e=.returned (.tuple #[.int .u32 (n+2),.bool true])∧∃g cap w1 t,ae (fun k=>k=j) w t∧(∀cs,w.heap[j]?=some (.cells cs 194 (0,0))→t.heap[j]?=some (.cells (cs.setIfInBounds 2 (.int .i64 (s+1))) 194 (0,0)))∧t.grownBy w1 q.ownBlock∧(q.ownBlock=some g∨t.heap.size≤g)∧w1.ownsRow 0 271 9 (.slice (some ⟨g,0,none⟩) (n+1) cap) (n+1) (xs++bU (some r))∧a2=w1.setCell ⟨j,0,none⟩ (.slice (some ⟨g,0,none⟩) (n+1) cap):=by
 have A:j<w.heap.size:=aD Z
 have J:j<w.heap.size+1:=by omega
 have K:j<w.heap.size+1+1:=by omega
 have L:j<w.heap.size+1+1+1:=by omega
 have t:q.oneCell'=true:=by obtain⟨_,_,rfl,_⟩:=ej I;rfl
 obtain⟨a1,hi,am,av,aw⟩:=info_parts vM
 have z:=Lib.hid N
 have T:=Lib.hid I
 clear N I
 go_enter Tryz.func137,Tryz.ntmps137
 go_wp2
 go_quiet (fail)
 go_wp2
 go_region_law (refine Ao rfl (.tmp 68) (.tmp 70) 192 rfl 0 271 a1 _ 9 32 Tryz.underlying192 hi am av aw rfl (by decide) q n xs rfl ?_ _ 1 1 (bU (some r)) rfl rfl ?_ ?_ ?_ ?_ (Nat.zero_le _) ?_;exact ae.bq (F:=fun k=>k=j) (by(exact up)) (fun k h e=>z.out (e ▸ h)) T.out;exact lI _ _ _ _ (by simp);(intro u S;simp[bU,fy]at S;rcases S with rfl|rfl|rfl|rfl|rfl|rfl|rfl|rfl|rfl<;>rfl);(unfold maxLen;omega);omega;intro t w1 O E ad;(obtain⟨g,cap,rfl⟩:=pY O (by omega));have t:=gL (o:=0) (v:=q) E z.out (by simp[go_sem,Y,A,J,K,L]);have q:=lW (o:=0) E (by simp;omega) z.out (by simp[go_sem,ab,A,J,K,L]))
 all_goals go_wp2
 all_goals go_ret2
 all_goals refine⟨?_,g,cap,w1,_,?_,?_,E,ad g rfl,O,rfl⟩
 all_goals first|((exact up);done)|(simp;done)|skip
 all_goals(intro cs q;have t:((w.alloc (.cells #[.int .u8 r.ad,.int .u8 r.I,.int .u8 r.J,.int .u8 r.lo.tag,.int .u32 r.lo.to,.int .u8 r.hi.tag,.int .u32 r.hi.to] 134)).drewN nq).heap[j]?=some (.cells cs 194 (0,0)):=(Below.heap_alloc w _ j A).trans q)
 all_goals(have q:=heap_setCell_same _ j 2 _ _ (.int .i64 (s+1)) t;have X:=aK q;(repeat (first|exact q|refine(Below.heap_alloc _ _ _ (by simp at X ⊢;omega)).trans ?_|(show(World.alloc _ _).heap[j]?=_))))

theorem yA (j q s:Nat)(r:Rec)(id:Int)(k len cap A:Nat)(I J K L N O S T U:Value)(t room:Int)(w:World)
  (a5:w.cell? ⟨j,0,none⟩=some (.slice (some ⟨q,0,none⟩) len cap)) (a6:w.cell? ⟨j,1,none⟩=some (.slice (some ⟨s,0,none⟩) (k+1) A))
  (X:w.cell? ⟨j,2,none⟩=some (.int .i64 t)) (a7:w.cell? ⟨j,3,none⟩=some (.int .i64 room)) (bg:t<room) (bx:room≤1048576) (a8:0≤t)
  (a':w.frozen? ⟨j,1,none⟩=false) (bb:w.frozen? ⟨j,2,none⟩=false) (bq:k<1048576) (br:k+1≤A) (bs:len≤1048576)
  (hid:w.cell? ⟨s,k,none⟩=some (.int .u32 id)) (bi:2≤id) (bn:id≤4294967295) (bp:id-2<(len:Int))
  (W:w.cell? ⟨q,(id-2).toNat*9,none⟩=some I) (ad:w.cell? ⟨q,(id-2).toNat*9+1,none⟩=some J) (am:w.cell? ⟨q,(id-2).toNat*9+2,none⟩=some K)
  (av:w.cell? ⟨q,(id-2).toNat*9+3,none⟩=some L) (aw:w.cell? ⟨q,(id-2).toNat*9+4,none⟩=some N) (a1:w.cell? ⟨q,(id-2).toNat*9+5,none⟩=some O)
  (a2:w.cell? ⟨q,(id-2).toNat*9+6,none⟩=some S) (a3:w.cell? ⟨q,(id-2).toNat*9+7,none⟩=some T) (a4:w.cell? ⟨q,(id-2).toNat*9+8,none⟩=some U)
  (be:∀Z,w.frozen? ⟨q,Z,none⟩=false) (bt:q≠j) (bv:j≠q) (bw:s≠j) :
  Calls Tryz.prog 137 #[.pointer (some ⟨j,0,none⟩),.agg #[.int .u8 r.ad,.int .u8 r.I,.int .u8 r.J,.int .u8 r.lo.tag,.int .u32 r.lo.to,.int .u8 r.hi.tag,.int .u32 r.hi.to]] w fun e ab=>
   e=.returned (.tuple #[.int .u32 id,.bool true])∧∃z E,ae (fun k=>k=j) w z∧(∀cs,w.heap[j]?=some (.cells cs 194 (0,0))→z.heap[j]?=some (.cells ((cs.setIfInBounds 2 (.int .i64 (t+1))).setIfInBounds 1 (.slice (some ⟨s,0,none⟩) k A)) 194 (0,0)))∧ab=((cU z q ((id-2).toNat*9) (bU (some r))).alloc E).drew:=by
 have Y:j<w.heap.size:=aD X
 have t:q<w.heap.size:=aD W
 have t:s<w.heap.size:=aD hid
 have t:j<w.heap.size+1:=by omega
 have t:q<w.heap.size+1:=by omega
 have q:s<w.heap.size+1:=by omega
 go_enter Tryz.func137,Tryz.ntmps137
 go_wp2
 go_quiet (fail)
 go_wp2
 go_region
 go_wp2
 go_ret2
 refine⟨rfl,?wW,?oO,?pA,?pB,?pC⟩
 case pC=>
  simp only[cU,bU,fy,List.cons_append,List.nil_append];rfl
 case pA=>(exact up)
 case pB=>
  intro cs s;have q:((w.alloc (.cells #[.int .u8 r.ad,.int .u8 r.I,.int .u8 r.J,.int .u8 r.lo.tag,.int .u32 r.lo.to,.int .u8 r.hi.tag,.int .u32 r.hi.to] 134)).drewN nq).heap[j]?=some (.cells cs 194 (0,0)):=(Below.heap_alloc w _ j Y).trans s;exact heap_setCell_same _ j 1 _ _ _ (heap_setCell_same _ j 2 _ _ _ q)

theorem rY {F:Nat→Prop}{w:World}{j:Nat}{cs:List (Option Rec)}{gone:List Int}{J room:Int}(h:cM F w j cs gone J room)(id:Int)(hid:id≤4294967295)(N:look cs id=none) :
  Calls Tryz.prog 133 #[.pointer (some ⟨j,0,none⟩),.int .u32 id] w fun r O=>
   r=.returned (.tuple #[.agg #[.int .u8 0,.int .u8 0,.int .u8 0,.int .u8 0,.int .u32 0,.int .u8 0,.int .u32 0],.bool false])∧aa w O:=by
 have E:=h.b0
 obtain⟨a,cap,z,L⟩:=h.cell
 refine uW j id w (fun t s=>?_)
 rcases xb N with q|⟨q,A⟩|⟨q,A,K⟩
 ·exact so j id a cs.length cap t hid (s.cell z) E q
 ·exact sq j id a cs.length cap t q hid (s.cell z) E A
 ·obtain⟨I,rfl,_,_,J,_⟩:=L (by omega);exact sm j I id cs.length cap t q hid (s.cell z) E A (s.cell (J _ _ K 7 (by omega)))

theorem n8 {F:Nat→Prop}{w:World}{q:Nat}{cs:List (Option Rec)}{gone:List Int}{j room:Int}(h:cM F w q cs gone j room)(id:Int)(hid:id≤4294967295)(r:Rec)(K:look cs id=some r) :
  Calls Tryz.prog 133 #[.pointer (some ⟨q,0,none⟩),.int .u32 id] w fun e L=>
   e=.returned (.tuple #[.agg #[.int .u8 r.ad,.int .u8 r.I,.int .u8 r.J,.int .u8 r.lo.tag,.int .u32 r.lo.to,.int .u8 r.hi.tag,.int .u32 r.hi.to],.bool true])∧aa w L:=by
 have J:=h.b0
 obtain⟨a,cap,A,z⟩:=h.cell
 obtain⟨E,I,t⟩:=bI K
 obtain⟨s,rfl,_,_,j,_⟩:=z (by omega)
 have j:=j _ _ t
 exact uX q s id r w (fun z t=>og q s id cs.length cap z E hid (t.cell A) J I (t.cell (j 7 (by omega))))
  (j 0 (by omega)) (j 1 (by omega)) (j 2 (by omega)) (j 3 (by omega)) (j 4 (by omega)) (j 5 (by omega)) (j 6 (by omega))

theorem lA {F:Nat→Prop}{w:World}{j:Nat}{cs:List (Option Rec)}{gone:List Int}{q room:Int}(h:cM F w j cs gone q room)(id:Int)(hid:id≤4294967295) :
  Calls Tryz.prog 133 #[.pointer (some ⟨j,0,none⟩),.int .u32 id] w fun e s=>
   e=.returned (.tuple #[.agg #[.int .u8 (al (look cs id)).ad,.int .u8 (al (look cs id)).I,.int .u8 (al (look cs id)).J,.int .u8 (al (look cs id)).lo.tag,.int .u32 (al (look cs id)).lo.to,.int .u8 (al (look cs id)).hi.tag,.int .u32 (al (look cs id)).hi.to],.bool (eT (look cs id))])∧aa w s:=by
 cases j:look cs id with
 |none=>exact rY h id hid j
 |some r=>exact n8 h id hid r j

theorem sf {F:Nat→Prop}{w:World}{j:Nat}{cs:List (Option Rec)}{gone:List Int}{q room:Int}(h:cM F w j cs gone q room) :
  Calls Tryz.prog 65 #[.pointer (some ⟨j,0,none⟩)] w fun e z=>e=.returned (.int .i64 q)∧w=z:=by
 obtain⟨⟨q,z,s,_⟩,_⟩:=h
 have t:=cell_of_row w j 2 _ _ _ s
 simp at t
 clear s
 go_enter Tryz.func65,Tryz.ntmps65
 go_wp2
 go_ret
 exact⟨rfl,rfl⟩

theorem sg (room:Int)(w:World)(q:0≤room)(s:room≤1048576) :
  Calls Tryz.prog 116 #[.int .i64 room] w fun e j=>e=.returned (.tuple #[.pointer (some ⟨w.heap.size,0,none⟩),.int .u8 0])∧j=w.alloc (.cells #[.slice none 0 0,.slice none 0 0,.int .i64 0,.int .i64 room] 194):=by
 go_enter Tryz.func116,Tryz.ntmps116
 go_wp2
 go_ret2
 exact⟨rfl,rfl⟩

def dH (gone:List Int)(len:Nat):Int:=match gone.getLast? with|some id=>id|none=>(len:Int)+2

def cT (cs:List (Option Rec))(gone:List Int)(r:Rec):List (Option Rec):=
 match gone.getLast? with|some id=>cs.set (id-2).toNat (some r)|none=>cs++[some r]

theorem zI {cs:List (Option Rec)}{gone:List Int}{r:Rec}:cs.length≤(cT cs gone r).length:=by
 unfold cT;split<;>simp

theorem sj {F:Nat→Prop}{w:World}{j:Nat}{cs:List (Option Rec)}{gone:List Int}{q room:Int}(h:cM F w j cs gone q room)(r:Rec)(t:room≤q) :
  Calls Tryz.prog 137 #[.pointer (some ⟨j,0,none⟩),.agg #[.int .u8 r.ad,.int .u8 r.I,.int .u8 r.J,.int .u8 r.lo.tag,.int .u32 r.lo.to,.int .u8 r.hi.tag,.int .u32 r.hi.to]] w fun e z=>
   e=.returned (.tuple #[.int .u32 0,.bool false])∧aa w z:=by
 obtain⟨⟨z,A,s,_⟩,_⟩:=h
 exact yB j r q room w (by rw[cell_of_row w j 2 _ _ _ s];rfl) (by rw[cell_of_row w j 3 _ _ _ s];rfl) t

theorem si {F:Nat→Prop}{w:World}{j:Nat}{cs:List (Option Rec)}{gone:List Int}{S room:Int}(h:cM F w j cs gone S room)(r:Rec)(cb:r.ok)(cd:S<room) :
  Calls Tryz.prog 137 #[.pointer (some ⟨j,0,none⟩),.agg #[.int .u8 r.ad,.int .u8 r.I,.int .u8 r.J,.int .u8 r.lo.tag,.int .u32 r.lo.to,.int .u8 r.hi.tag,.int .u32 r.hi.to]] w fun e am=>
   e=.returned (.tuple #[.int .u32 (dH gone cs.length),.bool true])∧ae F w am∧cM (ao F w am) am j (cT cs gone r) gone.dropLast (S+1) room:=by
 have cS:=h.cell
 obtain⟨⟨U,cg,t,Z,O,a8,b3⟩,Y,ce,br,bs,av,bt,bv⟩:=h
 have a7:w.cell? ⟨j,0,none⟩=some U:=by rw[cell_of_row w j 0 _ _ _ t];rfl
 have aw:w.cell? ⟨j,1,none⟩=some cg:=by rw[cell_of_row w j 1 _ _ _ t];rfl
 have bx:w.cell? ⟨j,2,none⟩=some (.int .i64 S):=by rw[cell_of_row w j 2 _ _ _ t];rfl
 have b0:w.cell? ⟨j,3,none⟩=some (.int .i64 room):=by rw[cell_of_row w j 3 _ _ _ t];rfl
 have a3:∀o,w.frozen? ⟨j,o,none⟩=false:=fun o=>frozen_of_row w j o _ _ t
 have b4:=aK t
 cases b8:gone.getLast? with
 |none=>
  have c7:gone=[]:=by simpa using b8
  subst c7;obtain⟨a6,a4,rfl,_⟩:=ej O
  have ca:U.ownBlock≠some j:=by
   intro e;obtain⟨a1,J⟩:=bJ Z e;exact dm J t (by decide) rfl
  simp only[List.length_nil]at br aw;refine(yC j r U cs.length (cs.flatMap bU) S room w a6 a4 a7 aw bx b0 cd av bs (a3 0) (a3 2) Z (by omega) ca).mono ?_;rintro e am ⟨rfl,g,cap,w1,L,E,I,bb,ab,be,rfl⟩;have I:=I _ t;simp at I;have a':j<L.heap.size:=Nat.lt_of_lt_of_le b4 E.size;have b2:w1.heap[j]?=some (.cells #[U,.slice a6 0 a4,.int .i64 (S+1),.int .i64 room] 194 (0,0)):=(bb.block j a' (fun e=>ca e.symm)).trans I
  have c8:j≠g:=by
   intro e;obtain⟨a1,J⟩:=bJ be (k:=g) rfl;exact dm b2 J (by decide) e
  have bg:ae F w w1:=(E.mono (fun k _ e=>by simpa[e]using Y)).ca bb (fun k q=>.inl (a8 k q));refine⟨by simp[dH],bg.setCell (p:=⟨j,0,none⟩) (.inl Y) _,⟨⟨.slice (some ⟨g,0,none⟩) (cs.length+1) cap,.slice a6 0 a4,?_,?_,?_,?_,?_⟩,?_,?_,?_,?_,av,?_,?_⟩⟩;·exact heap_setCell_same _ j 0 _ _ _ b2
  ·have:=ae.bq (F:=fun k=>k=j) (ae.setCell (F:=fun k=>k=j) (p:=⟨j,0,none⟩) (ae.refl _ w1) (Or.inl rfl) (.slice (some ⟨g,0,none⟩) (cs.length+1) cap)) (fun k q e=>c8 (by simp[Value.ownBlock]at q;omega)) be;simpa[cT,List.flatMap_append]using this
  ·have:=World.ownsRow_nil (w1.setCell ⟨j,0,none⟩ (.slice (some ⟨g,0,none⟩) (cs.length+1) cap)) 0 50 1;obtain⟨a6,z⟩:=O;refine⟨by simp,?_⟩;rcases z with⟨z,_⟩|⟨X,W,b1,z,bn,T,bp⟩
   ·exact .inl ⟨by simpa using z,rfl⟩
   ·simp at z;obtain⟨rfl,rfl⟩:=z;have b5:X≠j:=dm T t (by decide);refine .inr ⟨X,a4,b1,rfl,bn,?_,by simpa using bp⟩;rw[heap_setCell_other _ _ _ _ b5]
    have c4:some X≠U.ownBlock:=by
     intro e;obtain⟨a1,J⟩:=bJ Z e.symm;exact dm T J (by decide) rfl
    rw[bb.block X (Nat.lt_of_lt_of_le (aK T) E.size) c4,E.block X (aK T) b5];exact T
  ·intro k q;simp[Value.ownBlock]at q;subst q;rcases ab with ab|ab;·exact .inl (a8 _ ab)
   ·refine .inr ⟨Nat.le_trans E.size ab,?_⟩;obtain⟨a1,J⟩:=bJ be (k:=g) rfl;have:=aK J;rw[World.size_setCell];exact this
  ·intro k q;exact .inl (b3 k q)
  ·exact .inl Y
  ·simp[cT];omega
  ·simp[cT];omega
  ·omega
  ·intro id hid;simp at hid
  ·intro x s;simp[cT]at s;rcases s with s|rfl;·exact bv x s
   ·exact cb
 |some id=>
  obtain⟨gs,c9⟩:∃gs,gone=gs++[id]:=List.getLast?_eq_some_iff.1 b8;subst c9;obtain⟨c',da⟩:=bt id (by simp);obtain⟨d9,W,rfl,c6⟩:=ej O;obtain⟨N,rfl⟩:=c6 (by simp);obtain⟨a,cap,bw,cD⟩:=cS;obtain⟨A,rfl,a2,cy,dk,c0⟩:=cD (by omega);obtain rfl:U=.slice (some ⟨A,0,none⟩) cs.length cap:=by rw[a7]at bw;simpa using bw
  obtain⟨b1,b7⟩:=bJ O (k:=N) rfl;have b6:N≠j:=dm b7 t (by decide);have dj:(gs++[id]).length=gs.length+1:=by simp
  rw[dj]at aw O br
  have db:w.cell? ⟨N,gs.length,none⟩=some (.int .u32 id):=by
   rw[O.cellAt gs.length (by omega)];simp
  have b9:(id-2).toNat<cs.length:=by omega
  obtain⟨c,U⟩:∃c,cs[(id-2).toNat]?=some c:=⟨_,List.getElem?_eq_getElem b9⟩;have dl:=dk _ _ U
  have c5:gs.length+1≤W:=by
   rcases O.2 with⟨ad,_⟩|⟨_,_,_,ad,_,_,bp,_⟩
   ·simp at ad
   ·simp at ad;omega
  have K:∀U,U<9→∃x,w.cell? ⟨A,(id-2).toNat*9+U,none⟩=some x:=fun U ab=>by
   rw[dl U ab];exact⟨_,List.getElem?_eq_getElem (by rw[jY];exact ab)⟩
  obtain⟨d0,ch⟩:=K 0 (by omega);obtain⟨d1,ci⟩:=K 1 (by omega);obtain⟨d2,cj⟩:=K 2 (by omega);obtain⟨d3,cl⟩:=K 3 (by omega);obtain⟨d5,cn⟩:=K 4 (by omega);obtain⟨d6,co⟩:=K 5 (by omega);obtain⟨d7,cp⟩:=K 6 (by omega);obtain⟨d8,cq⟩:=K 7 (by omega);obtain⟨ab,U⟩:=K 8 (by omega);refine(yA j A N r id gs.length cs.length cap W d0 d1 d2 d3 d5 d6 d7 d8 ab S room w a7 aw bx b0 cd av bs (a3 1) (a3 2) (by omega) c5 ce db c' (by omega) da ch ci cj cl cn co cp cq U c0 a2 a2.symm b6).mono ?_;rintro e am ⟨rfl,L,a5,E,I,rfl⟩;have I:=I _ t;simp at I;have bq:=iw A (bU (some r)) ((id-2).toNat*9) L;have cv:=E.bq (fun k q e=>a2 (by simp[Value.ownBlock]at q;omega)) Z;have cx:=ja bU jY rfl cv (id-2).toNat b9 (some r);have a':j<L.heap.size:=Nat.lt_of_lt_of_le b4 E.size;have bg:ae F w (cU L A ((id-2).toNat*9) (bU (some r))):=(E.mono (fun k _ e=>by simpa[e]using Y)).a' (bq.mono (fun k _ e=>by simpa[e]using cy));have bi:aa (cU L A ((id-2).toNat*9) (bU (some r))) (((cU L A ((id-2).toNat*9) (bU (some r))).alloc a5).drew):=((aa.refl _).alloc a5).drew;have c3:L.ownsRow 0 50 1 (.slice (some ⟨N,0,none⟩) (gs.length+1) W) (gs.length+1) ((gs++[id]).map (Value.int .u32)):=E.bq (fun k q e=>b6 (by simp[Value.ownBlock]at q;omega)) O
  have c1:N≠A:=by
   obtain⟨a1,J⟩:=bJ Z (k:=A) rfl;exact dm b7 J (by decide)
  have c2:=bq.bq (fun k q e=>c1 (by simp[Value.ownBlock]at q;omega)) c3;refine⟨by simp[dH],(bg.alloc a5).drew,⟨⟨.slice (some ⟨A,0,none⟩) cs.length cap,.slice (some ⟨N,0,none⟩) gs.length W,?_,?_,?_,?_,?_⟩,?_,?_,?_,?_,av,?_,?_⟩⟩;·exact bi.heap ((bq.block j a' (fun e=>a2 e.symm)).trans I)
  ·have:=bi.bq cx;simpa[cT]using this
  ·have ad:=bi.bq c2;refine⟨by simp,?_⟩;rcases ad.2 with⟨z,_⟩|⟨X,j,cf,z,bn,T,bp,dr,ds,dB⟩
   ·simp at z
   ·simp at z;obtain⟨rfl,rfl⟩:=z;refine .inr ⟨N,W,cf,by simp,bn,T,by simp;omega,dr,ds,?_⟩;have:=congrArg (List.take gs.length) dB;rw[List.take_take]at this;simpa[Nat.min_eq_left]using this
  ·intro k q;exact .inl (a8 k q)
  ·intro k q;exact .inl (b3 k (by simpa[Value.ownBlock]using q))
  ·exact .inl Y
  ·simp[cT];omega
  ·simp[cT];omega
  ·omega
  ·intro x s;simp at s;have:=bt x (by simp[s]);simpa[cT]using this
  ·intro x s;simp[cT]at s;rcases List.mem_or_eq_of_mem_set s with s|s;·exact bv x s
   ·simp at s;rw[s];exact cb

structure St where
 cs:List (Option Rec)
 gone:List Int
 n:Int
 room:Int

def St.len (M:St):Int:=(M.cs.length:Int)-(M.gone.length:Int)

def St.b3 (M:St)(r:Rec):Option Int:=(M.cs.findIdx? (fun o=>decide (o=some r))).map (fun i=>(i:Int)+2)

def St.leads (M:St)(f:Int)(e:Edge)(l:Int):Bool:=
 dS f e l M.n&&(decide (e.to<2)||match look M.cs e.to with
  |some r=>r.ad==f&&decide (l≤r.I)&&decide (e.tag≤r.I)
  |none=>false)

def St.bp (M:St)(r:Rec):Bool:=!gU r M.n||!M.leads r.ad r.lo (r.J+1)||!M.leads r.ad r.hi (r.J+1)

def St.bg (M:St)(r:Rec):Int:=
 match M.b3 r with
 |some id=>id
 |none=>if M.bp r then 0 else if M.room≤M.len then 0 else dH M.gone M.cs.length

def St.a7 (M:St)(r:Rec):Int:=
 match M.b3 r with
 |some _=>0
 |none=>if M.bp r then 1 else if M.room≤M.len then 6 else 0

def St.a6 (M:St)(r:Rec):St:=
 match M.b3 r with
 |some _=>M
 |none=>if M.bp r then M else if M.room≤M.len then M else { M with cs:=cT M.cs M.gone r,gone:=M.gone.dropLast }

theorem gP {cs:List (Option Rec)}{i:Nat}{r:Rec}:look cs ((i:Int)+2)=some r↔cs[i]?=some (some r):=by
 have j:¬(i:Int)+2<2:=by omega
 have q:((i:Int)+2-2).toNat=i:=by omega
 unfold look;rw[if_neg j,q];cases h:cs[i]? with
 |none=>simp
 |some x=>simp

theorem jy {M:St}{r:Rec}{id:Int}(h:M.b3 r=some id):look M.cs id=some r:=by
 unfold St.b3 at h;cases j:M.cs.findIdx? (fun o=>decide (o=some r))with
 |none=>rw[j]at h;simp at h
 |some i=>
  rw[j]at h;simp at h;obtain⟨hi,q,_⟩:=List.findIdx?_eq_some_iff_getElem.1 j;subst h;rw[gP,List.getElem?_eq_getElem hi];simpa using q

theorem lZ {M:St}{r:Rec}(h:M.b3 r=none)(id:Int):look M.cs id≠some r:=by
 intro t;obtain⟨z,A,q⟩:=bI t;unfold St.b3 at h
 have j:M.cs.findIdx? (fun o=>decide (o=some r))=none:=by
  cases s:M.cs.findIdx? (fun o=>decide (o=some r))with
  |none=>rfl
  |some i=>rw[s]at h;simp at h
 rw[List.findIdx?_eq_none_iff]at j;have:=j (some r) (List.mem_of_getElem? q);simp at this

def St.b2 (M:St):Prop:=∀r id j,look M.cs id=some r→look M.cs j=some r→id=j

theorem jx {M:St}(h:M.b2)(r:Rec)(id:Int):look M.cs id=some r↔M.b3 r=some id:=by
 constructor
 ·intro j;cases hi:M.b3 r with
  |none=>exact(lZ hi id j).elim
  |some q=>rw[h r id q j (jy hi)]
 ·exact jy

theorem pt {cs:List (Option Rec)}{gone:List Int}{r:Rec}(E:∀id∈gone,2≤id∧id-2<(cs.length:Int)∧look cs id=none)(id:Int)(q:Rec) :
  look (cT cs gone r) id=some q↔(id=dH gone cs.length∧q=r)∨look cs id=some q:=by
 unfold cT dH
 cases J:gone.getLast? with
 |none=>
  simp only[];constructor
  ·intro h;obtain⟨t,s,j⟩:=bI h;by_cases A:(id-2).toNat<cs.length
   ·right;rw[List.getElem?_append_left A]at j;have:=gP.2 j;rwa[show(((id-2).toNat:Nat):Int)+2=id by omega]at this
   ·left;rw[List.getElem?_append_right (by omega)]at j;simp at s;have e:(id-2).toNat-cs.length=0:=(by omega);rw[e]at j;simp at j;exact⟨by omega,j.symm⟩
  ·rintro(⟨rfl,rfl⟩|h);·rw[gP];simp
   ·obtain⟨t,s,j⟩:=bI h;have:=(gP (cs:=cs++[some r]) (i:=(id-2).toNat) (r:=q)).2 (by rw[List.getElem?_append_left (by omega)];exact j);rwa[show(((id-2).toNat:Nat):Int)+2=id by omega]at this
 |some x=>
  simp only[];obtain⟨gs,I⟩:=List.getLast?_eq_some_iff.1 J;obtain⟨A,J,L⟩:=E x (by rw[I];simp);have z:(x-2).toNat<cs.length:=by omega
  constructor
  ·intro h;obtain⟨t,s,j⟩:=bI h;rw[List.getElem?_set]at j;split at j
   ·rename_i A;left;simp[z]at j;exact⟨by omega,j.symm⟩
   ·right;have:=gP.2 j;rwa[show(((id-2).toNat:Nat):Int)+2=id by omega]at this
  ·rintro(⟨rfl,rfl⟩|h)
   ·have:=(gP (cs:=cs.set (id-2).toNat (some q)) (i:=(id-2).toNat) (r:=q)).2 (by simp[z]);rwa[show(((id-2).toNat:Nat):Int)+2=id by omega]at this
   ·obtain⟨t,s,j⟩:=bI h
    have K:(x-2).toNat≠(id-2).toNat:=by
     intro e;have:x=id:=(by omega);subst this;rw[L]at h;cases h
    have:=(gP (cs:=cs.set (x-2).toNat (some r)) (i:=(id-2).toNat) (r:=q)).2 (by rw[List.getElem?_set,if_neg K];exact j);rwa[show(((id-2).toNat:Nat):Int)+2=id by omega]at this

structure St.wf (M:St):Prop where
 n0:0≤M.n
 br:M.n≤16
 gone:∀id∈M.gone,2≤id∧id-2<(M.cs.length:Int)∧look M.cs id=none
 ga:M.gone.Nodup
 cS:∀id r,look M.cs id=some r→M.bp r=false
 b2:M.b2
 g2:0≤M.len
 hs:0≤M.room
 gb:M.room≤1048576
 c6:M.len≤M.room

theorem mi {M M':St}(t:M'.n=M.n)(s:∀id r,look M.cs id=some r→look M'.cs id=some r){f:Int}{e:Edge}{l:Int}(h:M.leads f e l=true):M'.leads f e l=true:=by
 unfold St.leads at h ⊢;rw[t];simp only[Bool.and_eq_true,Bool.or_eq_true]at h ⊢;refine⟨h.1,?_⟩;rcases h.2 with j|j;·exact .inl j
 ·right;cases q:look M.cs e.to with
  |none=>rw[q]at j;simp at j
  |some r=>rw[s _ _ q];rw[q]at j;exact j

theorem om {M M':St}(j:M'.n=M.n)(q:∀id r,look M.cs id=some r→look M'.cs id=some r){r:Rec}(h:M.bp r=false):M'.bp r=false:=by
 unfold St.bp at h ⊢;simp only[Bool.or_eq_false_iff,Bool.not_eq_false']at h ⊢;exact⟨⟨by rw[j];exact h.1.1,mi j q h.1.2⟩,mi j q h.2⟩

theorem qe {cs:List (Option Rec)}{gone:List Int}{r:Rec}:((cT cs gone r).length:Int)-(gone.dropLast.length:Int)=(cs.length:Int)-(gone.length:Int)+1:=by
 unfold cT;cases j:gone.getLast? with
 |none=>
  have:gone=[]:=by simpa using j
  subst this;simp
 |some x=>
  obtain⟨gs,q⟩:=List.getLast?_eq_some_iff.1 j;subst q;simp;omega

theorem mL {cs:List (Option Rec)}{gone:List Int}(s:∀id∈gone,2≤id∧id-2<(cs.length:Int)∧look cs id=none):2≤dH gone cs.length∧dH gone cs.length≤(cs.length:Int)+2∧look cs (dH gone cs.length)=none:=by
 unfold dH;cases A:gone.getLast? with
 |none=>
  refine⟨by simp only[];omega,by simp only[];omega,?_⟩;simp only[];cases z:look cs ((cs.length:Int)+2)with
  |none=>rfl
  |some r=>have:=bI z;omega
 |some x=>
  obtain⟨gs,t⟩:=List.getLast?_eq_some_iff.1 A;obtain⟨j,z,q⟩:=s x (by rw[t];simp);exact⟨j,by simp only[];omega,q⟩

def St.add (M:St)(r:Rec):St:={ M with cs:=cT M.cs M.gone r,gone:=M.gone.dropLast }

theorem St.wf.e8 {M:St}(h:M.wf)(r:Rec)(id:Int)(j:Rec):look (M.add r).cs id=some j↔(id=dH M.gone M.cs.length∧j=r)∨look M.cs id=some j:=pt h.gone id j

theorem St.e7 (M:St)(r:Rec):(M.add r).len=M.len+1:=qe

theorem St.wf.add {M:St}(h:M.wf){r:Rec}(N:M.b3 r=none)(X:M.bp r=false)(T:M.len<M.room):(M.add r).wf:=by
 have q:=h.e8 r;have O:∀id j,look M.cs id=some j→look (M.add r).cs id=some j:=fun id j T=>(q id j).2 (.inr T);have T:=M.e7 r;refine⟨h.n0,h.br,?_,?_,?_,?_,?_,h.hs,h.gb,?_⟩
 ·intro id hid;replace hid:id∈M.gone.dropLast:=hid;have J:id∈M.gone:=(List.dropLast_sublist _).mem hid;obtain⟨T,Z,U⟩:=h.gone id J;refine⟨T,?_,?_⟩
  ·have:=@zI M.cs M.gone r;show id-2<((cT M.cs M.gone r).length:Int);omega
  ·cases s:look (M.add r).cs id with
   |none=>rfl
   |some j=>
    exfalso;rcases(q id j).1 s with⟨e,_⟩|e
    ·cases I:M.gone.getLast? with
     |none=>
      have:M.gone=[]:=(by simpa using I);rw[this]at J;simp at J
     |some x=>
      have Y:dH M.gone M.cs.length=x:=(by unfold dH;rw[I]);obtain⟨gs,J⟩:=List.getLast?_eq_some_iff.1 I;have K:=h.ga;rw[J]at K hid;simp at hid;rw[List.nodup_append]at K;exact K.2.2 id hid x (by simp) (e.trans Y)
    ·rw[U]at e;cases e
 ·exact List.Nodup.sublist (List.dropLast_sublist _) h.ga
 ·intro id j s;rcases(q id j).1 s with⟨_,rfl⟩|s
  ·exact om (M:=M) (M':=M.add j) rfl O X
  ·exact om (M:=M) (M':=M.add r) rfl O (h.cS id j s)
 ·intro j id z W L;rcases(q id j).1 W with⟨S,A⟩|E
  ·rcases(q z j).1 L with⟨s,_⟩|t
   ·rw[S,s]
   ·rw[A]at t;exact(lZ N z t).elim
  ·rcases(q z j).1 L with⟨_,A⟩|t
   ·rw[A]at E;exact(lZ N id E).elim
   ·exact h.b2 j id z E t
 ·have:=h.g2;omega
 ·show(M.add r).len≤M.room;omega

theorem St.wf.gj {M:St}(h:M.wf)(r:Rec):(M.a6 r).wf:=by
 unfold St.a6;cases hi:M.b3 r with
 |some id=>exact h
 |none=>
  simp only[];split;·exact h
  ·split;·exact h
   ·exact h.add hi (by simpa using ‹¬M.bp r=true›) (by omega)

open Go.Sort

def lk (cs:List (Option Rec))(j:Int→Prop):Prop:=
 ∀id r,j id→look cs id=some r→(look cs r.lo.to≠none→j r.lo.to)∧(look cs r.hi.to≠none→j r.hi.to)

def Reaches (cs:List (Option Rec))(roots:List Int)(id:Int):Prop:=
 ∀j:Int→Prop,(∀e∈roots,look cs e≠none→j e)→lk cs j→j id

theorem Reaches.root {cs:List (Option Rec)}{roots:List Int}{id:Int}(h:id∈roots)(q:look cs id≠none):Reaches cs roots id:=fun _ j _=>j id h q

theorem Reaches.closed (cs:List (Option Rec))(roots:List Int):lk cs (Reaches cs roots):=
 fun id r h t=>⟨fun s q hS j=>((j id r (h q hS j) t).1 s),fun s q hS j=>((j id r (h q hS j) t).2 s)⟩

theorem Reaches.some {cs:List (Option Rec)}{roots:List Int}{id:Int}(h:Reaches cs roots id):look cs id≠none:=
 h (fun x=>look cs x≠none) (fun _ _ h=>h) (fun _ _ _ _=>⟨fun h=>h,fun h=>h⟩)

theorem Reaches.mono {cs:List (Option Rec)}{a b:List Int}(h:∀x∈a,x∈b){id:Int}(s:Reaches cs a id):Reaches cs b id:=
 fun j hS q=>s j (fun e j s=>hS e (h e j) s) q

theorem Reaches.below {cs:List (Option Rec)}{a b:List Int}(h:∀x∈a,look cs x≠none→Reaches cs b x){id:Int}(s:Reaches cs a id):Reaches cs b id:=
 fun j hS q=>s j (fun e s t=>h e s t j hS q) q

structure eC (cs:List (Option Rec))(e:Int)(S T:List Int):Prop where
 da:look cs e≠none→e∈S++T
 et:∀id∈T,∀r,look cs id=some r→(look cs r.lo.to≠none→r.lo.to∈S++T)∧(look cs r.hi.to≠none→r.hi.to∈S++T)
 e6:∀id∈T,Reaches cs [e] id
 b2:T.Nodup
 apart:∀id∈T,id∉S

theorem eC.none {cs:List (Option Rec)}{e:Int}{j:List Int}(h:look cs e=none):eC cs e j []:=
 ⟨fun q=>absurd h q,by simp,by simp,by simp,by simp⟩

theorem eC.hf {cs:List (Option Rec)}{e:Int}{j:List Int}(h:e∈j):eC cs e j []:=
 ⟨fun _=>by simpa using h,by simp,by simp,by simp,by simp⟩

theorem eC.fj {cs:List (Option Rec)}{e:Int}{r:Rec}{s t E:List Int}(I:look cs e=some r)(W:e∉s)(j:eC cs r.lo.to (s++[e]) t)(q:eC cs r.hi.to (s++[e]++t) E):eC cs e s (e::(t++E)):=by
 have O:s++e::(t++E)=s++[e]++t++E:=by simp
 have J:Reaches cs [e] e:=Reaches.root (by simp) (by rw[I];simp);refine⟨fun _=>by simp,?_,?_,?_,?_⟩
 ·intro id hid N z;rw[O];rcases List.mem_cons.1 hid with rfl|hid
  ·rw[I]at z;cases z;exact⟨fun h=>List.mem_append_left _ (j.da h),fun h=>q.da h⟩
  ·rcases List.mem_append.1 hid with hid|hid;·exact⟨fun h=>List.mem_append_left _ ((j.et id hid N z).1 h),fun h=>List.mem_append_left _ ((j.et id hid N z).2 h)⟩
   ·exact q.et id hid N z
 ·intro id hid;rcases List.mem_cons.1 hid with rfl|hid;·exact J
  ·rcases List.mem_append.1 hid with hid|hid;·exact(j.e6 id hid).below (fun x A L=>by rw[List.mem_singleton]at A;subst A;exact(Reaches.closed cs [e] e r J I).1 L)
   ·exact(q.e6 id hid).below (fun x A L=>by rw[List.mem_singleton]at A;subst A;exact(Reaches.closed cs [e] e r J I).2 L)
 ·refine List.nodup_cons.2 ⟨?_,List.nodup_append.2 ⟨j.b2,q.b2,?_⟩⟩
  ·intro hm;rcases List.mem_append.1 hm with hm|hm;·exact j.apart e hm (by simp)
   ·exact q.apart e hm (by simp)
  ·intro a S b U T;subst T;exact q.apart a U (List.mem_append_right _ S)
 ·intro id hid K;rcases List.mem_cons.1 hid with rfl|hid;·exact W K
  ·rcases List.mem_append.1 hid with hid|hid;·exact j.apart id hid (by simp[K])
   ·exact q.apart id hid (by simp[K])

structure eP (cs:List (Option Rec))(es:List Int)(S:List Int):Prop where
 da:∀e∈es,look cs e≠none→e∈S
 et:lk cs (fun id=>id∈S)
 e6:∀id∈S,Reaches cs es id
 b2:S.Nodup

theorem eP.nil (cs:List (Option Rec)):eP cs [] []:=⟨by simp,fun _ _ h=>by simp at h,by simp,by simp⟩

theorem eP.step {cs:List (Option Rec)}{es t z:List Int}{e:Int}(h:eP cs es t)(s:eC cs e t z):eP cs (es++[e]) (t++z):=by
 refine⟨?_,?_,?_,?_⟩
 ·intro x j q;rcases List.mem_append.1 j with j|j;·exact List.mem_append_left _ (h.da x j q)
  ·rw[List.mem_singleton]at j;subst j;exact s.da q
 ·intro id r hid q;rcases List.mem_append.1 hid with hid|hid;·exact⟨fun t=>List.mem_append_left _ ((h.et id r hid q).1 t),fun t=>List.mem_append_left _ ((h.et id r hid q).2 t)⟩
  ·exact s.et id hid r q
 ·intro id hid;rcases List.mem_append.1 hid with hid|hid;·exact(h.e6 id hid).mono (fun x j=>List.mem_append_left _ j)
  ·exact(s.e6 id hid).mono (fun x j=>List.mem_append_right _ j)
 ·refine List.nodup_append.2 ⟨h.b2,s.b2,?_⟩;intro a A b I E;subst E;exact s.apart a I A

theorem eP.e2 {cs:List (Option Rec)}{es j:List Int}(h:eP cs es j)(id:Int):id∈j↔Reaches cs es id:=
 ⟨h.e6 id,fun q=>q (fun x=>x∈j) (fun e q s=>h.da e q s) h.et⟩

noncomputable def aN (cs:List (Option Rec))(roots:List Int):List Int:=
 letI:=Classical.propDecidable
 ((List.range cs.length).map (fun i:Nat=>(i:Int)+2)).filter (fun id=>decide (Reaches cs roots id))

theorem eG {cs:List (Option Rec)}{roots:List Int}{id:Int}:id∈aN cs roots↔Reaches cs roots id:=by
 unfold aN;rw[List.mem_filter];simp only[decide_eq_true_eq];refine⟨fun h=>h.2,fun h=>⟨?_,h⟩⟩;cases j:look cs id with
 |none=>exact absurd j h.some
 |some r=>
  obtain⟨q,s,_⟩:=bI j;exact List.mem_map.2 ⟨(id-2).toNat,List.mem_range.2 (by omega),by omega⟩

theorem iV (cs:List (Option Rec))(roots:List Int):(aN cs roots).Pairwise (·<·):=by
 unfold aN;refine List.Pairwise.filter _ (List.pairwise_map.2 (List.Pairwise.imp (R:=(·<·)) ?_ List.pairwise_lt_range));intro a b h;omega

theorem mW:∀{a b:List Int},a.Pairwise (·<·)→b.Pairwise (·<·)→(∀x,x∈a↔x∈b)→a=b
 |[],[],_,_,_=>rfl
 |[],y::b,_,_,h=>by have:=(h y).2 (by simp);simp at this
 |x::a,[],_,_,h=>by have:=(h x).1 (by simp);simp at this
 |x::a,y::b,K,L,h=>by
  obtain⟨A,I⟩:=List.pairwise_cons.1 K;obtain⟨E,J⟩:=List.pairwise_cons.1 L
  have e:x=y:=by
   have j:=(h x).1 (by simp);have q:=(h y).2 (by simp);rcases List.mem_cons.1 j with j|j;·exact j
   ·rcases List.mem_cons.1 q with q|q;·exact q.symm
    ·have:=E x j;have:=A y q;omega
  subst e;congr 1
  refine mW I J fun t=>⟨fun s=>?_,fun s=>?_⟩
  ·rcases List.mem_cons.1 ((h t).1 (List.mem_cons_of_mem _ s))with e|z;·subst e;have:=A t s;omega
   ·exact z
  ·rcases List.mem_cons.1 ((h t).2 (List.mem_cons_of_mem _ s))with e|z;·subst e;have:=E t s;omega
   ·exact z

theorem qG {cs:List (Option Rec)}{roots s:List Int}{d d':Array Int}(h:eP cs roots s)(K:d.toList.Perm s)(S:PermIn 0 d.size d d')(T:SortedIn ltInt 0 d.size d'):d'.toList=aN cs roots:=by
 obtain⟨t,s,z⟩:=S;have E:d.extract 0 d.size=d:=by simp
 have I:d'.extract 0 d.size=d':=by rw[←t];simp
 rw[E,I]at z;have A:=z.trans K;have O:d'.toList.Nodup:=A.nodup_iff.2 h.b2;refine mW ?_ (iV _ _) fun x=>?_
 ·rw[List.pairwise_iff_getElem];intro i j hi q s;have J:=T i j (Nat.zero_le _) s (by rw[←t];simpa using q);have L:i<d'.size:=by simpa using hi
  have N:j<d'.size:=by simpa using q
  simp only[ltInt,getElem!_pos d' i L,getElem!_pos d' j N,decide_eq_false_iff_not]at J
  have s:d'[i]≠d'[j]:=fun e=>by
   have:=(List.getElem_inj (h₀:=hi) (h₁:=q) O).1 (by simpa using e);omega
  simp only[Array.getElem_toList];omega
 ·rw[A.mem_iff,h.e2,eG]

structure je (M:St)(r:Rec):Prop where
 f1:1≤r.ad
 f5:r.ad≤5
 tb:r.I≤r.J
 bn:r.J<M.n
 chain:r.I=r.J∨eQ r.ad=true
 lo:M.leads r.ad r.lo (r.J+1)=true
 hi:M.leads r.ad r.hi (r.J+1)=true
 zero:r.ad=2∨r.ad=4→r.hi.to≠0
 apart:r.ad≠2→r.ad≠4→r.lo≠r.hi

theorem oS {M:St}{r:Rec}(h:M.bp r=false):je M r:=by
 unfold St.bp at h;simp only[Bool.or_eq_false_iff,Bool.not_eq_false']at h;obtain⟨⟨j,z⟩,A⟩:=h;unfold gU at j;split at j;·cases j
 ·rename_i q;simp only[Bool.or_eq_true,Bool.and_eq_true,Bool.not_eq_true',decide_eq_true_eq,not_or,not_and,bne_iff_ne,ne_eq,Bool.not_eq_false]at q;obtain⟨⟨⟨⟨q,_⟩,J⟩,K⟩,t⟩:=q;have q:bD r.ad=true:=by cases h:bD r.ad<;>simp_all
  unfold bD at q;simp only[Bool.and_eq_true,decide_eq_true_eq]at q;split at j;·cases j
  ·refine⟨by omega,by omega,by omega,by omega,?_,z,A,?_,?_⟩
   ·by_cases s:r.I=r.J;·exact .inl s
    ·exact .inr (t s)
   ·intro q;have:(r.ad==2||r.ad==4)=true:=(by simpa using q);rw[if_pos this]at j;simpa using j
   ·intro E I s;have:¬(r.ad==2||r.ad==4)=true:=(by simp[E,I]);rw[if_neg this,s]at j;simp at j

theorem St.wf.b7 {M:St}(h:M.wf){id:Int}{r:Rec}(j:look M.cs id=some r):je M r:=oS (h.cS id r j)

theorem gO {M:St}{f:Int}{e:Edge}{l:Int}(h:M.leads f e l=true):dS f e l M.n=true∧(e.to<2∨∃r,look M.cs e.to=some r∧r.ad=f∧l≤r.I∧e.tag≤r.I):=by
 unfold St.leads at h;simp only[Bool.and_eq_true,Bool.or_eq_true,decide_eq_true_eq]at h;refine⟨h.1,?_⟩;rcases h.2 with j|j;·exact .inl j
 ·right;cases q:look M.cs e.to with
  |none=>rw[q]at j;cases j
  |some r=>
   rw[q]at j;simp only[Bool.and_eq_true,decide_eq_true_eq,beq_iff_eq]at j;exact⟨r,rfl,j.1.1,j.1.2,j.2⟩

theorem oC {M:St}(h:M.wf){id:Int}{r j:Rec}(A:look M.cs id=some r){e:Edge}(t:e=r.lo∨e=r.hi)(q:look M.cs e.to=some j):r.I<j.I∧j.ad=r.ad:=by
 have g:=h.b7 A;have j:=(bI q).1;have E:M.leads r.ad e (r.J+1)=true:=by rcases t with rfl|rfl;exact g.lo;exact g.hi
 rcases(gO E).2 with j|⟨x,s,z,j,_⟩;·omega
 ·rw[q]at s;cases s;have:=g.tb;exact⟨by omega,z⟩

end Go.Proofs.YtafkamlhimkbmaaGreat
