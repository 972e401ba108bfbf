/-
  Walks of package arena.
-/
import Derived.Test.YtpgcbmbnognieaaGreatPFindA
import Derived.Sort.AssemblyPlain
namespace Go.Proofs.YtpgcbmbnognieaaGreat
set_option maxRecDepth 1000000
set_option maxHeartbeats 8000000
set_option linter.unusedSimpArgs false
set_option linter.unusedVariables false
open Go.RowKit

theorem at_less (ab:Nat)(id:Int)(cs:Option Addr)(len cap:Nat)(w:World)(h1:id≤4294967295)
  (hc:w.cell? ⟨ab,0,none⟩=some (.slice cs len cap)) (hlen:len≤1048576) (h:id<2) :
  Calls Tryz.prog 198 #[.pointer (some ⟨ab,0,none⟩),.int .u32 id] w fun r w'=>r=.returned (.pointer none)∧w=w':=by
 go_enter Tryz.func198,Tryz.ntmps198
 go_wp2
 go_ret
 exact⟨rfl,rfl⟩

theorem at_more (ab:Nat)(id:Int)(cs:Option Addr)(len cap:Nat)(w:World)(h0:2≤id)(h1:id≤4294967295)
  (hc:w.cell? ⟨ab,0,none⟩=some (.slice cs len cap)) (hlen:len≤1048576) (h:(len:Int)≤id-2) :
  Calls Tryz.prog 198 #[.pointer (some ⟨ab,0,none⟩),.int .u32 id] w fun r w'=>r=.returned (.pointer none)∧w=w':=by
 go_enter Tryz.func198,Tryz.ntmps198
 go_wp2
 go_ret
 exact⟨rfl,rfl⟩

theorem at_free (ab cb:Nat)(id:Int)(len cap:Nat)(w:World)(h0:2≤id)(h1:id≤4294967295)
  (hc:w.cell? ⟨ab,0,none⟩=some (.slice (some ⟨cb,0,none⟩) len cap)) (hlen:len≤1048576) (h:id-2<(len:Int))
  (hin:w.cell? ⟨cb,(id-2).toNat*9+7,none⟩=some (.bool false)) :
  Calls Tryz.prog 198 #[.pointer (some ⟨ab,0,none⟩),.int .u32 id] w fun r w'=>r=.returned (.pointer none)∧w=w':=by
 go_enter Tryz.func198,Tryz.ntmps198
 go_wp2
 go_ret
 exact⟨rfl,rfl⟩

theorem at_held (ab cb:Nat)(id:Int)(len cap:Nat)(w:World)(h0:2≤id)(h1:id≤4294967295)
  (hc:w.cell? ⟨ab,0,none⟩=some (.slice (some ⟨cb,0,none⟩) len cap)) (hlen:len≤1048576) (h:id-2<(len:Int))
  (hin:w.cell? ⟨cb,(id-2).toNat*9+7,none⟩=some (.bool true)) :
  Calls Tryz.prog 198 #[.pointer (some ⟨ab,0,none⟩),.int .u32 id] w fun r w'=>r=.returned (.pointer (some ⟨cb,(id-2).toNat*9,none⟩))∧w=w':=by
 go_enter Tryz.func198,Tryz.ntmps198
 go_wp2
 go_ret
 exact⟨rfl,rfl⟩

theorem get_none (ab:Nat)(id:Int)(w:World)
  (hat:∀ W,Keeps w W→Calls Tryz.prog 198 #[.pointer (some ⟨ab,0,none⟩),.int .u32 id] W fun r w'=>r=.returned (.pointer none)∧W=w') :
  Calls Tryz.prog 145 #[.pointer (some ⟨ab,0,none⟩),.int .u32 id] w fun r w'=>
   r=.returned (.tuple #[.agg #[.int .u8 0,.int .u8 0,.int .u8 0,.int .u8 0,.int .u32 0,.int .u8 0,.int .u32 0],.bool false])∧Keeps w w':=by
 have H:=Lib.hid hat
 clear hat
 go_enter Tryz.func145,Tryz.ntmps145
 go_wp2_with (first|(refine(H.out _ (by(exact kp))).mono ?_;rintro e w' ⟨rfl,rfl⟩)|fail)
 refine bodyPost_ret (v:=.tuple #[.agg #[.int .u8 0,.int .u8 0,.int .u8 0,.int .u8 0,.int .u32 0,.int .u8 0,.int .u32 0],.bool false]) (by simp [results,Tryz.results145,go_sem]) rfl ⟨rfl,by(exact kp)⟩

theorem get_some (ab cb:Nat)(id:Int)(r:Rec)(w:World)
  (hat:∀ W,Keeps w W→Calls Tryz.prog 198 #[.pointer (some ⟨ab,0,none⟩),.int .u32 id] W fun r w'=>r=.returned (.pointer (some ⟨cb,(id-2).toNat*9,none⟩))∧W=w')
  (h0:w.cell? ⟨cb,(id-2).toNat*9,none⟩=some (.int .u8 r.form)) (h1:w.cell? ⟨cb,(id-2).toNat*9+1,none⟩=some (.int .u8 r.top))
  (h2:w.cell? ⟨cb,(id-2).toNat*9+2,none⟩=some (.int .u8 r.bot)) (h3:w.cell? ⟨cb,(id-2).toNat*9+3,none⟩=some (.int .u8 r.lo.tag))
  (h4:w.cell? ⟨cb,(id-2).toNat*9+4,none⟩=some (.int .u32 r.lo.to)) (h5:w.cell? ⟨cb,(id-2).toNat*9+5,none⟩=some (.int .u8 r.hi.tag))
  (h6:w.cell? ⟨cb,(id-2).toNat*9+6,none⟩=some (.int .u32 r.hi.to)) :
  Calls Tryz.prog 145 #[.pointer (some ⟨ab,0,none⟩),.int .u32 id] w fun e w'=>
   e=.returned (.tuple #[.agg #[.int .u8 r.form,.int .u8 r.top,.int .u8 r.bot,.int .u8 r.lo.tag,.int .u32 r.lo.to,.int .u8 r.hi.tag,.int .u32 r.hi.to],.bool true])∧Keeps w w':=by
 have H:=Lib.hid hat
 clear hat
 have hlt:=lt_of_cell h0
 dsimp only at hlt
 have hne:cb≠w.heap.size:=by omega
 go_enter Tryz.func145,Tryz.ntmps145
 go_wp2_with (first|(refine(H.out _ (by(exact kp))).mono ?_;rintro e w' ⟨rfl,rfl⟩)|fail)
 go_outline
 refine bodyPost_ret (v:=.tuple #[.agg #[.int .u8 r.form,.int .u8 r.top,.int .u8 r.bot,.int .u8 r.lo.tag,.int .u32 r.lo.to,.int .u8 r.hi.tag,.int .u32 r.hi.to],.bool true]) (by simp [results,Tryz.results145,go_sem]) rfl ⟨rfl,by(exact kp)⟩

theorem put_full (ab:Nat)(r:Rec)(cnt room:Int)(w:World) 
  (h2:w.cell? ⟨ab,2,none⟩=some (.int .i64 cnt)) (h3:w.cell? ⟨ab,3,none⟩=some (.int .i64 room)) (hfull:room≤cnt) :
  Calls Tryz.prog 131 #[.pointer (some ⟨ab,0,none⟩),.agg #[.int .u8 r.form,.int .u8 r.top,.int .u8 r.bot,.int .u8 r.lo.tag,.int .u32 r.lo.to,.int .u8 r.hi.tag,.int .u32 r.hi.to]] w fun e w'=>
   e=.returned (.tuple #[.int .u32 0,.bool false])∧Keeps w w':=by
 have hab:ab<w.heap.size:=lt_of_cell h2
 go_enter Tryz.func131,Tryz.ntmps131
 go_wp2
 go_quiet (fail)
 go_wp2
 go_ret2
 exact⟨rfl,by(exact kp)⟩

theorem info_cell:(Tryz.prog.info? 270).map (fun i=>(i.zero,i.size,i.bytes))=some (some (.agg #[.int .u8 0,.int .u8 0,.int .u8 0,.int .u8 0,.int .u32 0,.int .u8 0,.int .u32 0,.bool false,.int .i64 0]),9,32):=by kernel_rfl

theorem put_more (ab:Nat)(r:Rec)(cv:Value)(n:Nat)(xs:List Value)(cnt room:Int)(w:World)(a1:Option Addr)(c1:Nat)
  (h0:w.cell? ⟨ab,0,none⟩=some cv) (h1:w.cell? ⟨ab,1,none⟩=some (.slice a1 0 c1))
  (h2:w.cell? ⟨ab,2,none⟩=some (.int .i64 cnt)) (h3:w.cell? ⟨ab,3,none⟩=some (.int .i64 room)) (hfull:cnt<room) (hroom:room≤1048576) (hcnt:0≤cnt)
  (hf0:w.frozen? ⟨ab,0,none⟩=false) (hf2:w.frozen? ⟨ab,2,none⟩=false)
  (hown:w.ownsRow 0 270 9 cv n xs) (hn:n<1048576) (hne:cv.ownBlock≠some ab) :
  Calls Tryz.prog 131 #[.pointer (some ⟨ab,0,none⟩),.agg #[.int .u8 r.form,.int .u8 r.top,.int .u8 r.bot,.int .u8 r.lo.tag,.int .u32 r.lo.to,.int .u8 r.hi.tag,.int .u32 r.hi.to]] w fun e w'=>
   e=.returned (.tuple #[.int .u32 (n+2),.bool true])∧∃ g cap w1 W,Upd (fun k=>k=ab) w W∧(∀ cs,w.heap[ab]?=some (.cells cs 243 (0,0))→W.heap[ab]?=some (.cells (cs.setIfInBounds 2 (.int .i64 (cnt+1))) 243 (0,0)))∧W.grownBy w1 cv.ownBlock∧(cv.ownBlock=some g∨W.heap.size≤g)∧w1.ownsRow 0 270 9 (.slice (some ⟨g,0,none⟩) (n+1) cap) (n+1) (xs++cellVals (some r))∧w'=w1.setCell ⟨ab,0,none⟩ (.slice (some ⟨g,0,none⟩) (n+1) cap):=by
 have hab:ab<w.heap.size:=lt_of_cell h2
 have hab1:ab<w.heap.size+1:=by omega
 have hab2:ab<w.heap.size+1+1:=by omega
 have hab3:ab<w.heap.size+1+1+1:=by omega
 have hcv:cv.oneCell'=true:=by obtain⟨_,_,rfl,_⟩:=owns_slice hown;rfl
 obtain⟨i0,hi,hz0,hz1,hz2⟩:=info_parts info_cell
 have HN:=Lib.hid hne
 have HO:=Lib.hid hown
 clear hne hown
 go_enter Tryz.func131,Tryz.ntmps131
 go_wp2
 go_quiet (fail)
 go_wp2
 go_region_law (refine step_append_own rfl (.tmp 68) (.tmp 70) 241 rfl 0 270 i0 _ 9 32 Tryz.underlying241 hi hz0 hz1 hz2 rfl (by decide) cv n xs rfl ?_ _ 1 1 (cellVals (some r)) rfl rfl ?_ ?_ ?_ ?_ (Nat.zero_le _) ?_;exact Upd.owns (F:=fun k=>k=ab) (by(exact up)) (fun k h e=>HN.out (e ▸ h)) HO.out;exact cell_newd _ _ _ _ (by simp);(intro u hu;simp [cellVals,recVals] at hu;rcases hu with rfl|rfl|rfl|rfl|rfl|rfl|rfl|rfl|rfl<;>rfl);(unfold maxLen;omega);omega;intro v' w1 hown1 hgrow hfresh;(obtain⟨g,cap,rfl⟩:=owns_shape hown1 (by omega));have k0:=grown_cell (o:=0) (v:=cv) hgrow HN.out (by simp [go_sem,h0,hab,hab1,hab2,hab3]);have e0:=grown_frozen (o:=0) hgrow (by simp;omega) HN.out (by simp [go_sem,hf0,hab,hab1,hab2,hab3]))
 all_goals go_wp2
 all_goals go_ret2
 all_goals refine⟨?_,g,cap,w1,_,?_,?_,hgrow,hfresh g rfl,hown1,rfl⟩
 all_goals first|((exact up);done)|(simp;done)|skip
 all_goals(intro cs hcs;have e1:((w.alloc (.cells #[.int .u8 r.form,.int .u8 r.top,.int .u8 r.bot,.int .u8 r.lo.tag,.int .u32 r.lo.to,.int .u8 r.hi.tag,.int .u32 r.hi.to] 125)).drewN nq).heap[ab]?=some (.cells cs 243 (0,0)):=(Below.heap_alloc w _ ab hab).trans hcs)
 all_goals(have e2:=heap_setCell_same _ ab 2 _ _ (.int .i64 (cnt+1)) e1;have e3:=lt_of_heap e2;(repeat (first|exact e2|refine(Below.heap_alloc _ _ _ (by simp at e3 ⊢;omega)).trans ?_|(show(World.alloc _ _).heap[ab]?=_))))

theorem put_free (ab cb fb:Nat)(r:Rec)(id:Int)(k len cap fcap:Nat)(c0 c1 c2 c3 c4 c5 c6 c7 c8:Value)(cnt room:Int)(w:World)
  (h0:w.cell? ⟨ab,0,none⟩=some (.slice (some ⟨cb,0,none⟩) len cap)) (h1:w.cell? ⟨ab,1,none⟩=some (.slice (some ⟨fb,0,none⟩) (k+1) fcap))
  (h2:w.cell? ⟨ab,2,none⟩=some (.int .i64 cnt)) (h3:w.cell? ⟨ab,3,none⟩=some (.int .i64 room)) (hfull:cnt<room) (hroom:room≤1048576) (hcnt:0≤cnt)
  (hf1:w.frozen? ⟨ab,1,none⟩=false) (hf2:w.frozen? ⟨ab,2,none⟩=false) (hk:k<1048576) (hkc:k+1≤fcap) (hlen:len≤1048576)
  (hid:w.cell? ⟨fb,k,none⟩=some (.int .u32 id)) (hid0:2≤id) (hid1:id≤4294967295) (hidl:id-2<(len:Int))
  (g0:w.cell? ⟨cb,(id-2).toNat*9,none⟩=some c0) (g1:w.cell? ⟨cb,(id-2).toNat*9+1,none⟩=some c1) (g2:w.cell? ⟨cb,(id-2).toNat*9+2,none⟩=some c2)
  (g3:w.cell? ⟨cb,(id-2).toNat*9+3,none⟩=some c3) (g4:w.cell? ⟨cb,(id-2).toNat*9+4,none⟩=some c4) (g5:w.cell? ⟨cb,(id-2).toNat*9+5,none⟩=some c5)
  (g6:w.cell? ⟨cb,(id-2).toNat*9+6,none⟩=some c6) (g7:w.cell? ⟨cb,(id-2).toNat*9+7,none⟩=some c7) (g8:w.cell? ⟨cb,(id-2).toNat*9+8,none⟩=some c8)
  (hfr:∀ j,w.frozen? ⟨cb,j,none⟩=false) (hne:cb≠ab) (hne':ab≠cb) (hnf:fb≠ab) :
  Calls Tryz.prog 131 #[.pointer (some ⟨ab,0,none⟩),.agg #[.int .u8 r.form,.int .u8 r.top,.int .u8 r.bot,.int .u8 r.lo.tag,.int .u32 r.lo.to,.int .u8 r.hi.tag,.int .u32 r.hi.to]] w fun e w'=>
   e=.returned (.tuple #[.int .u32 id,.bool true])∧∃ W O,Upd (fun k=>k=ab) w W∧(∀ cs,w.heap[ab]?=some (.cells cs 243 (0,0))→W.heap[ab]?=some (.cells ((cs.setIfInBounds 2 (.int .i64 (cnt+1))).setIfInBounds 1 (.slice (some ⟨fb,0,none⟩) k fcap)) 243 (0,0)))∧w'=((set9 W cb ((id-2).toNat*9) (cellVals (some r))).alloc O).drew:=by
 have hab:ab<w.heap.size:=lt_of_cell h2
 have hcb:cb<w.heap.size:=lt_of_cell g0
 have hfb:fb<w.heap.size:=lt_of_cell hid
 have hab1:ab<w.heap.size+1:=by omega
 have hcb1:cb<w.heap.size+1:=by omega
 have hfb1:fb<w.heap.size+1:=by omega
 go_enter Tryz.func131,Tryz.ntmps131
 go_wp2
 go_quiet (fail)
 go_wp2
 go_region
 go_wp2
 go_ret2
 refine⟨rfl,?wW,?oO,?pA,?pB,?pC⟩
 case pC=>
  simp only [set9,cellVals,recVals,List.cons_append,List.nil_append]
  rfl
 case pA=>(exact up)
 case pB=>
  intro cs hcs
  have e1:((w.alloc (.cells #[.int .u8 r.form,.int .u8 r.top,.int .u8 r.bot,.int .u8 r.lo.tag,.int .u32 r.lo.to,.int .u8 r.hi.tag,.int .u32 r.hi.to] 125)).drewN nq).heap[ab]?=some (.cells cs 243 (0,0)):=(Below.heap_alloc w _ ab hab).trans hcs
  exact heap_setCell_same _ ab 1 _ _ _ (heap_setCell_same _ ab 2 _ _ _ e1)

theorem arena_get_none {F:Nat→Prop}{w:World}{ab:Nat}{cs:List (Option Rec)}{gone:List Int}{cnt room:Int}(h:ArenaRep F w ab cs gone cnt room)(id:Int)(hid:id≤4294967295)(hl:look cs id=none) :
  Calls Tryz.prog 145 #[.pointer (some ⟨ab,0,none⟩),.int .u32 id] w fun r w'=>
   r=.returned (.tuple #[.agg #[.int .u8 0,.int .u8 0,.int .u8 0,.int .u8 0,.int .u32 0,.int .u8 0,.int .u32 0],.bool false])∧Keeps w w':=by
 have hfew:=h.few
 obtain⟨a,cap,h0,hc⟩:=h.cell
 refine get_none ab id w (fun W hW=>?_)
 rcases look_none hl with h2|⟨h2,h3⟩|⟨h2,h3,h4⟩
 ·exact at_less ab id a cs.length cap W hid (hW.cell h0) hfew h2
 ·exact at_more ab id a cs.length cap W h2 hid (hW.cell h0) hfew h3
 ·obtain⟨cb,rfl,_,_,hv,_⟩:=hc (by omega)
  exact at_free ab cb id cs.length cap W h2 hid (hW.cell h0) hfew h3 (hW.cell (hv _ _ h4 7 (by omega)))

theorem arena_get_some {F:Nat→Prop}{w:World}{ab:Nat}{cs:List (Option Rec)}{gone:List Int}{cnt room:Int}(h:ArenaRep F w ab cs gone cnt room)(id:Int)(hid:id≤4294967295)(r:Rec)(hl:look cs id=some r) :
  Calls Tryz.prog 145 #[.pointer (some ⟨ab,0,none⟩),.int .u32 id] w fun e w'=>
   e=.returned (.tuple #[.agg #[.int .u8 r.form,.int .u8 r.top,.int .u8 r.bot,.int .u8 r.lo.tag,.int .u32 r.lo.to,.int .u8 r.hi.tag,.int .u32 r.hi.to],.bool true])∧Keeps w w':=by
 have hfew:=h.few
 obtain⟨a,cap,h0,hc⟩:=h.cell
 obtain⟨h2,h3,h4⟩:=look_some hl
 obtain⟨cb,rfl,_,_,hv,_⟩:=hc (by omega)
 have hv:=hv _ _ h4
 exact get_some ab cb id r w (fun W hW=>at_held ab cb id cs.length cap W h2 hid (hW.cell h0) hfew h3 (hW.cell (hv 7 (by omega))))
  (hv 0 (by omega)) (hv 1 (by omega)) (hv 2 (by omega)) (hv 3 (by omega)) (hv 4 (by omega)) (hv 5 (by omega)) (hv 6 (by omega))

theorem arena_get {F:Nat→Prop}{w:World}{ab:Nat}{cs:List (Option Rec)}{gone:List Int}{cnt room:Int}(h:ArenaRep F w ab cs gone cnt room)(id:Int)(hid:id≤4294967295) :
  Calls Tryz.prog 145 #[.pointer (some ⟨ab,0,none⟩),.int .u32 id] w fun e w'=>
   e=.returned (.tuple #[.agg #[.int .u8 (grec (look cs id)).form,.int .u8 (grec (look cs id)).top,.int .u8 (grec (look cs id)).bot,.int .u8 (grec (look cs id)).lo.tag,.int .u32 (grec (look cs id)).lo.to,.int .u8 (grec (look cs id)).hi.tag,.int .u32 (grec (look cs id)).hi.to],.bool (gsome (look cs id))])∧Keeps w w':=by
 cases hl:look cs id with
 | none=>exact arena_get_none h id hid hl
 | some r=>exact arena_get_some h id hid r hl

theorem arena_len {F:Nat→Prop}{w:World}{ab:Nat}{cs:List (Option Rec)}{gone:List Int}{cnt room:Int}(h:ArenaRep F w ab cs gone cnt room) :
  Calls Tryz.prog 108 #[.pointer (some ⟨ab,0,none⟩)] w fun e w'=>e=.returned (.int .i64 cnt)∧w=w':=by
 obtain⟨⟨cv,fv,h1,_⟩,_⟩:=h
 have hc:=cell_of_row w ab 2 _ _ _ h1
 simp at hc
 clear h1
 go_enter Tryz.func108,Tryz.ntmps108
 go_wp2
 go_ret
 exact⟨rfl,rfl⟩

theorem arena_new (room:Int)(w:World)(h0:0≤room)(h1:room≤1048576) :
  Calls Tryz.prog 126 #[.int .i64 room] w fun e w'=>e=.returned (.tuple #[.pointer (some ⟨w.heap.size,0,none⟩),.int .u8 0])∧w'=w.alloc (.cells #[.slice none 0 0,.slice none 0 0,.int .i64 0,.int .i64 room] 243):=by
 go_enter Tryz.func126,Tryz.ntmps126
 go_wp2
 go_ret2
 exact⟨rfl,rfl⟩

def putId (gone:List Int)(len:Nat):Int:=match gone.getLast? with|some id=>id|none=>(len:Int)+2

def putCs (cs:List (Option Rec))(gone:List Int)(r:Rec):List (Option Rec):=
 match gone.getLast? with|some id=>cs.set (id-2).toNat (some r)|none=>cs++[some r]

theorem set_len_le {cs:List (Option Rec)}{gone:List Int}{r:Rec}:cs.length≤(putCs cs gone r).length:=by
 unfold putCs;split<;>simp

theorem arena_put_full {F:Nat→Prop}{w:World}{ab:Nat}{cs:List (Option Rec)}{gone:List Int}{cnt room:Int}(h:ArenaRep F w ab cs gone cnt room)(r:Rec)(hfull:room≤cnt) :
  Calls Tryz.prog 131 #[.pointer (some ⟨ab,0,none⟩),.agg #[.int .u8 r.form,.int .u8 r.top,.int .u8 r.bot,.int .u8 r.lo.tag,.int .u32 r.lo.to,.int .u8 r.hi.tag,.int .u32 r.hi.to]] w fun e w'=>
   e=.returned (.tuple #[.int .u32 0,.bool false])∧Keeps w w':=by
 obtain⟨⟨cv,fv,h1,_⟩,_⟩:=h
 exact put_full ab r cnt room w (by rw [cell_of_row w ab 2 _ _ _ h1];rfl) (by rw [cell_of_row w ab 3 _ _ _ h1];rfl) hfull

theorem arena_put {F:Nat→Prop}{w:World}{ab:Nat}{cs:List (Option Rec)}{gone:List Int}{cnt room:Int}(h:ArenaRep F w ab cs gone cnt room)(r:Rec)(hr:r.ok)(hroom:cnt<room) :
  Calls Tryz.prog 131 #[.pointer (some ⟨ab,0,none⟩),.agg #[.int .u8 r.form,.int .u8 r.top,.int .u8 r.bot,.int .u8 r.lo.tag,.int .u32 r.lo.to,.int .u8 r.hi.tag,.int .u32 r.hi.to]] w fun e w'=>
   e=.returned (.tuple #[.int .u32 (putId gone cs.length),.bool true])∧Upd F w w'∧ArenaRep (Grow F w w') w' ab (putCs cs gone r) gone.dropLast (cnt+1) room:=by
 have hcell:=h.cell
 obtain⟨⟨cv,fv,h1,h2,h3,h4,h5⟩,a2,a3,a4,a5,a6,a7,a8⟩:=h
 have c0:w.cell? ⟨ab,0,none⟩=some cv:=by rw [cell_of_row w ab 0 _ _ _ h1];rfl
 have c1:w.cell? ⟨ab,1,none⟩=some fv:=by rw [cell_of_row w ab 1 _ _ _ h1];rfl
 have c2:w.cell? ⟨ab,2,none⟩=some (.int .i64 cnt):=by rw [cell_of_row w ab 2 _ _ _ h1];rfl
 have c3:w.cell? ⟨ab,3,none⟩=some (.int .i64 room):=by rw [cell_of_row w ab 3 _ _ _ h1];rfl
 have hfz:∀ o,w.frozen? ⟨ab,o,none⟩=false:=fun o=>frozen_of_row w ab o _ _ h1
 have hab:=lt_of_heap h1
 cases hg:gone.getLast? with
 | none=>
  have hg0:gone=[]:=by simpa using hg
  subst hg0
  obtain⟨a1,k1,rfl,_⟩:=owns_slice h3
  have hne:cv.ownBlock≠some ab:=by
   intro e
   obtain⟨cur,hcur⟩:=owns_type h2 e
   exact ne_of_type hcur h1 (by decide) rfl
  simp only [List.length_nil] at a4 c1
  refine(put_more ab r cv cs.length (cs.flatMap cellVals) cnt room w a1 k1 c0 c1 c2 c3 hroom a6 a5 (hfz 0) (hfz 2) h2 (by omega) hne).mono ?_
  rintro e w' ⟨rfl,g,cap,w1,W,hu,hW,hgr,hfr,hown,rfl⟩
  have hW:=hW _ h1
  simp at hW
  have habW:ab<W.heap.size:=Nat.lt_of_lt_of_le hab hu.size
  have h1W:w1.heap[ab]?=some (.cells #[cv,.slice a1 0 k1,.int .i64 (cnt+1),.int .i64 room] 243 (0,0)):=(hgr.block ab habW (fun e=>hne e.symm)).trans hW
  have hgne:ab≠g:=by
   intro e
   obtain⟨cur,hcur⟩:=owns_type hown (k:=g) rfl
   exact ne_of_type h1W hcur (by decide) e
  have hupd:Upd F w w1:=(hu.mono (fun k _ e=>by simpa [e] using a2)).grown hgr (fun k hk=>.inl (h4 k hk))
  refine⟨by simp [putId],hupd.setCell (p:=⟨ab,0,none⟩) (.inl a2) _,⟨⟨.slice (some ⟨g,0,none⟩) (cs.length+1) cap,.slice a1 0 k1,?_,?_,?_,?_,?_⟩,?_,?_,?_,?_,a6,?_,?_⟩⟩
  ·exact heap_setCell_same _ ab 0 _ _ _ h1W
  ·have:=Upd.owns (F:=fun k=>k=ab) (Upd.setCell (F:=fun k=>k=ab) (p:=⟨ab,0,none⟩) (Upd.refl _ w1) (Or.inl rfl) (.slice (some ⟨g,0,none⟩) (cs.length+1) cap)) (fun k hk e=>hgne (by simp [Value.ownBlock] at hk;omega)) hown
   simpa [putCs,List.flatMap_append] using this
  ·have:=World.ownsRow_nil (w1.setCell ⟨ab,0,none⟩ (.slice (some ⟨g,0,none⟩) (cs.length+1) cap)) 0 23 1
   obtain⟨q1,q2⟩:=h3
   refine⟨by simp,?_⟩
   rcases q2 with⟨q2,_⟩|⟨fg,fcap,fcur,q2,q3,q4,q5⟩
   ·exact .inl ⟨by simpa using q2,rfl⟩
   ·simp at q2
    obtain⟨rfl,rfl⟩:=q2
    have hfa:fg≠ab:=ne_of_type q4 h1 (by decide)
    refine .inr ⟨fg,k1,fcur,rfl,q3,?_,by simpa using q5⟩
    rw [heap_setCell_other _ _ _ _ hfa]
    have hfc:some fg≠cv.ownBlock:=by
     intro e
     obtain⟨cur,hcur⟩:=owns_type h2 e.symm
     exact ne_of_type q4 hcur (by decide) rfl
    rw [hgr.block fg (Nat.lt_of_lt_of_le (lt_of_heap q4) hu.size) hfc,hu.block fg (lt_of_heap q4) hfa]
    exact q4
  ·intro k hk
   simp [Value.ownBlock] at hk
   subst hk
   rcases hfr with hfr|hfr
   ·exact .inl (h4 _ hfr)
   ·refine .inr ⟨Nat.le_trans hu.size hfr,?_⟩
    obtain⟨cur,hcur⟩:=owns_type hown (k:=g) rfl
    have:=lt_of_heap hcur
    rw [World.size_setCell]
    exact this
  ·intro k hk
   exact .inl (h5 k hk)
  ·exact .inl a2
  ·simp [putCs];omega
  ·simp [putCs];omega
  ·omega
  ·intro id hid
   simp at hid
  ·intro x hx
   simp [putCs] at hx
   rcases hx with hx|rfl
   ·exact a8 x hx
   ·exact hr
 | some id=>
  obtain⟨gs,hgs⟩:∃ gs,gone=gs++[id]:=List.getLast?_eq_some_iff.1 hg
  subst hgs
  obtain⟨hid0,hid1⟩:=a7 id (by simp)
  obtain⟨fa,fcap,rfl,hfs⟩:=owns_slice h3
  obtain⟨fb,rfl⟩:=hfs (by simp)
  obtain⟨a,cap,c0',hc⟩:=hcell
  obtain⟨cb,rfl,hcab,hFcb,hv,hcf⟩:=hc (by omega)
  obtain rfl:cv=.slice (some ⟨cb,0,none⟩) cs.length cap:=by rw [c0] at c0';simpa using c0'
  obtain⟨fcur,hfcur⟩:=owns_type h3 (k:=fb) rfl
  have hfab:fb≠ab:=ne_of_type hfcur h1 (by decide)
  have hlen:(gs++[id]).length=gs.length+1:=by simp
  rw [hlen] at c1 h3 a4
  have hidc:w.cell? ⟨fb,gs.length,none⟩=some (.int .u32 id):=by
   rw [h3.cellAt gs.length (by omega)]
   simp
  have hlt:(id-2).toNat<cs.length:=by omega
  obtain⟨c,hcc⟩:∃ c,cs[(id-2).toNat]?=some c:=⟨_,List.getElem?_eq_getElem hlt⟩
  have hvv:=hv _ _ hcc
  have hfcap:gs.length+1≤fcap:=by
   rcases h3.2 with⟨q,_⟩|⟨_,_,_,q,_,_,q5,_⟩
   ·simp at q
   ·simp at q
    omega
  have hget:∀ j,j<9→∃ x,w.cell? ⟨cb,(id-2).toNat*9+j,none⟩=some x:=fun j hj=>by
   rw [hvv j hj]
   exact⟨_,List.getElem?_eq_getElem (by rw [cellVals_length];exact hj)⟩
  obtain⟨x0,g0⟩:=hget 0 (by omega)
  obtain⟨x1,g1⟩:=hget 1 (by omega)
  obtain⟨x2,g2⟩:=hget 2 (by omega)
  obtain⟨x3,g3⟩:=hget 3 (by omega)
  obtain⟨x4,g4⟩:=hget 4 (by omega)
  obtain⟨x5,g5⟩:=hget 5 (by omega)
  obtain⟨x6,g6⟩:=hget 6 (by omega)
  obtain⟨x7,g7⟩:=hget 7 (by omega)
  obtain⟨x8,g8⟩:=hget 8 (by omega)
  refine(put_free ab cb fb r id gs.length cs.length cap fcap x0 x1 x2 x3 x4 x5 x6 x7 x8 cnt room w c0 c1 c2 c3 hroom a6 a5 (hfz 1) (hfz 2) (by omega) hfcap a3 hidc hid0 (by omega) hid1 g0 g1 g2 g3 g4 g5 g6 g7 g8 hcf hcab hcab.symm hfab).mono ?_
  rintro e w' ⟨rfl,W,O,hu,hW,rfl⟩
  have hW:=hW _ h1
  simp at hW
  have u9:=set9_upd cb (cellVals (some r)) ((id-2).toNat*9) W
  have h2W:=hu.owns (fun k hk e=>hcab (by simp [Value.ownBlock] at hk;omega)) h2
  have h9:=set9_owns cellVals cellVals_length rfl h2W (id-2).toNat hlt (some r)
  have habW:ab<W.heap.size:=Nat.lt_of_lt_of_le hab hu.size
  have hupd:Upd F w (set9 W cb ((id-2).toNat*9) (cellVals (some r))):=(hu.mono (fun k _ e=>by simpa [e] using a2)).trans' (u9.mono (fun k _ e=>by simpa [e] using hFcb))
  have k9:Keeps (set9 W cb ((id-2).toNat*9) (cellVals (some r))) (((set9 W cb ((id-2).toNat*9) (cellVals (some r))).alloc O).drew):=((Keeps.refl _).alloc O).drew
  have hfW:W.ownsRow 0 23 1 (.slice (some ⟨fb,0,none⟩) (gs.length+1) fcap) (gs.length+1) ((gs++[id]).map (Value.int .u32)):=hu.owns (fun k hk e=>hfab (by simp [Value.ownBlock] at hk;omega)) h3
  have hcfb:fb≠cb:=by
   obtain⟨cur,hcur⟩:=owns_type h2 (k:=cb) rfl
   exact ne_of_type hfcur hcur (by decide)
  have hf9:=u9.owns (fun k hk e=>hcfb (by simp [Value.ownBlock] at hk;omega)) hfW
  refine⟨by simp [putId],(hupd.alloc O).drew,⟨⟨.slice (some ⟨cb,0,none⟩) cs.length cap,.slice (some ⟨fb,0,none⟩) gs.length fcap,?_,?_,?_,?_,?_⟩,?_,?_,?_,?_,a6,?_,?_⟩⟩
  ·exact k9.heap ((u9.block ab habW (fun e=>hcab e.symm)).trans hW)
  ·have:=k9.owns h9
   simpa [putCs] using this
  ·have q:=k9.owns hf9
   refine⟨by simp,?_⟩
   rcases q.2 with⟨q2,_⟩|⟨fg,fcap',fcur',q2,q3,q4,q5,q6,q7,q8⟩
   ·simp at q2
   ·simp at q2
    obtain⟨rfl,rfl⟩:=q2
    refine .inr ⟨fb,fcap,fcur',by simp,q3,q4,by simp;omega,q6,q7,?_⟩
    have:=congrArg (List.take gs.length) q8
    rw [List.take_take] at this
    simpa [Nat.min_eq_left] using this
  ·intro k hk
   exact .inl (h4 k hk)
  ·intro k hk
   exact .inl (h5 k (by simpa [Value.ownBlock] using hk))
  ·exact .inl a2
  ·simp [putCs];omega
  ·simp [putCs];omega
  ·omega
  ·intro x hx
   simp at hx
   have:=a7 x (by simp [hx])
   simpa [putCs] using this
  ·intro x hx
   simp [putCs] at hx
   rcases List.mem_or_eq_of_mem_set hx with hx|hx
   ·exact a8 x hx
   ·simp at hx
    rw [hx]
    exact hr

structure St where
 cs:List (Option Rec)
 gone:List Int
 n:Int
 room:Int

def St.len (M:St):Int:=(M.cs.length:Int)-(M.gone.length:Int)

def St.idOf (M:St)(r:Rec):Option Int:=(M.cs.findIdx? (fun o=>decide (o=some r))).map (fun i=>(i:Int)+2)

def St.leads (M:St)(f:Int)(e:Edge)(l:Int):Bool:=
 plainB f e l M.n&&(decide (e.to<2)||match look M.cs e.to with
  | some r=>r.form==f&&decide (l≤r.top)&&decide (e.tag≤r.top)
  | none=>false)

def St.bad (M:St)(r:Rec):Bool:=!rightB r M.n||!M.leads r.form r.lo (r.bot+1)||!M.leads r.form r.hi (r.bot+1)

def St.findId (M:St)(r:Rec):Int:=
 match M.idOf r with
 | some id=>id
 | none=>if M.bad r then 0 else if M.room≤M.len then 0 else putId M.gone M.cs.length

def St.findErr (M:St)(r:Rec):Int:=
 match M.idOf r with
 | some _=>0
 | none=>if M.bad r then 1 else if M.room≤M.len then 6 else 0

def St.findSt (M:St)(r:Rec):St:=
 match M.idOf r with
 | some _=>M
 | none=>if M.bad r then M else if M.room≤M.len then M else { M with cs:=putCs M.cs M.gone r,gone:=M.gone.dropLast }

theorem look_get {cs:List (Option Rec)}{i:Nat}{r:Rec}:look cs ((i:Int)+2)=some r↔cs[i]?=some (some r):=by
 have h2:¬(i:Int)+2<2:=by omega
 have h3:((i:Int)+2-2).toNat=i:=by omega
 unfold look
 rw [if_neg h2,h3]
 cases h:cs[i]? with
 | none=>simp
 | some x=>simp

theorem idOf_look {M:St}{r:Rec}{id:Int}(h:M.idOf r=some id):look M.cs id=some r:=by
 unfold St.idOf at h
 cases hf:M.cs.findIdx? (fun o=>decide (o=some r)) with
 | none=>rw [hf] at h;simp at h
 | some i=>
  rw [hf] at h
  simp at h
  obtain⟨hi,hp,_⟩:=List.findIdx?_eq_some_iff_getElem.1 hf
  subst h
  rw [look_get,List.getElem?_eq_getElem hi]
  simpa using hp

theorem idOf_none {M:St}{r:Rec}(h:M.idOf r=none)(id:Int):look M.cs id≠some r:=by
 intro hl
 obtain⟨h2,h3,h4⟩:=look_some hl
 unfold St.idOf at h
 have hn:M.cs.findIdx? (fun o=>decide (o=some r))=none:=by
  cases hf:M.cs.findIdx? (fun o=>decide (o=some r)) with
  | none=>rfl
  | some i=>rw [hf] at h;simp at h
 rw [List.findIdx?_eq_none_iff] at hn
 have:=hn (some r) (List.mem_of_getElem? h4)
 simp at this

def St.once (M:St):Prop:=∀ r id id',look M.cs id=some r→look M.cs id'=some r→id=id'

theorem idOf_iff {M:St}(h:M.once)(r:Rec)(id:Int):look M.cs id=some r↔M.idOf r=some id:=by
 constructor
 ·intro hl
  cases hi:M.idOf r with
  | none=>exact(idOf_none hi id hl).elim
  | some id'=>rw [h r id id' hl (idOf_look hi)]
 ·exact idOf_look

theorem look_put {cs:List (Option Rec)}{gone:List Int}{r:Rec}(hg:∀ id∈gone,2≤id∧id-2<(cs.length:Int)∧look cs id=none)(id:Int)(r':Rec) :
  look (putCs cs gone r) id=some r'↔(id=putId gone cs.length∧r'=r)∨look cs id=some r':=by
 unfold putCs putId
 cases hl:gone.getLast? with
 | none=>
  simp only []
  constructor
  ·intro h
   obtain⟨h2,h3,h4⟩:=look_some h
   by_cases hc:(id-2).toNat<cs.length
   ·right
    rw [List.getElem?_append_left hc] at h4
    have:=look_get.2 h4
    rwa [show(((id-2).toNat:Nat):Int)+2=id by omega] at this
   ·left
    rw [List.getElem?_append_right (by omega)] at h4
    simp at h3
    have e:(id-2).toNat-cs.length=0:=by omega
    rw [e] at h4
    simp at h4
    exact⟨by omega,h4.symm⟩
  ·rintro(⟨rfl,rfl⟩|h)
   ·rw [look_get];simp
   ·obtain⟨h2,h3,h4⟩:=look_some h
    have:=(look_get (cs:=cs++[some r]) (i:=(id-2).toNat) (r:=r')).2 (by rw [List.getElem?_append_left (by omega)];exact h4)
    rwa [show(((id-2).toNat:Nat):Int)+2=id by omega] at this
 | some x=>
  simp only []
  obtain⟨gs,hgs⟩:=List.getLast?_eq_some_iff.1 hl
  obtain⟨x2,x3,x4⟩:=hg x (by rw [hgs];simp)
  have hxl:(x-2).toNat<cs.length:=by omega
  constructor
  ·intro h
   obtain⟨h2,h3,h4⟩:=look_some h
   rw [List.getElem?_set] at h4
   split at h4
   ·rename_i he
    left
    simp [hxl] at h4
    exact⟨by omega,h4.symm⟩
   ·right
    have:=look_get.2 h4
    rwa [show(((id-2).toNat:Nat):Int)+2=id by omega] at this
  ·rintro(⟨rfl,rfl⟩|h)
   ·have:=(look_get (cs:=cs.set (id-2).toNat (some r')) (i:=(id-2).toNat) (r:=r')).2 (by simp [hxl])
    rwa [show(((id-2).toNat:Nat):Int)+2=id by omega] at this
   ·obtain⟨h2,h3,h4⟩:=look_some h
    have hne:(x-2).toNat≠(id-2).toNat:=by
     intro e
     have:x=id:=by omega
     subst this
     rw [x4] at h
     cases h
    have:=(look_get (cs:=cs.set (x-2).toNat (some r)) (i:=(id-2).toNat) (r:=r')).2 (by rw [List.getElem?_set,if_neg hne];exact h4)
    rwa [show(((id-2).toNat:Nat):Int)+2=id by omega] at this

structure St.wf (M:St):Prop where
 n0:0≤M.n
 n16:M.n≤16
 gone:∀ id∈M.gone,2≤id∧id-2<(M.cs.length:Int)∧look M.cs id=none
 nodup:M.gone.Nodup
 good:∀ id r,look M.cs id=some r→M.bad r=false
 once:M.once
 len0:0≤M.len
 room0:0≤M.room
 room1:M.room≤1048576
 full:M.len≤M.room

theorem leads_mono {M M':St}(hn:M'.n=M.n)(hl:∀ id r,look M.cs id=some r→look M'.cs id=some r){f:Int}{e:Edge}{l:Int}(h:M.leads f e l=true):M'.leads f e l=true:=by
 unfold St.leads at h ⊢
 rw [hn]
 simp only [Bool.and_eq_true,Bool.or_eq_true] at h ⊢
 refine⟨h.1,?_⟩
 rcases h.2 with h2|h2
 ·exact .inl h2
 ·right
  cases hk:look M.cs e.to with
  | none=>rw [hk] at h2;simp at h2
  | some r=>rw [hl _ _ hk];rw [hk] at h2;exact h2

theorem bad_mono {M M':St}(hn:M'.n=M.n)(hl:∀ id r,look M.cs id=some r→look M'.cs id=some r){r:Rec}(h:M.bad r=false):M'.bad r=false:=by
 unfold St.bad at h ⊢
 simp only [Bool.or_eq_false_iff,Bool.not_eq_false'] at h ⊢
 exact⟨⟨by rw [hn];exact h.1.1,leads_mono hn hl h.1.2⟩,leads_mono hn hl h.2⟩

theorem putLen {cs:List (Option Rec)}{gone:List Int}{r:Rec}:((putCs cs gone r).length:Int)-(gone.dropLast.length:Int)=(cs.length:Int)-(gone.length:Int)+1:=by
 unfold putCs
 cases hl:gone.getLast? with
 | none=>
  have:gone=[]:=by simpa using hl
  subst this
  simp
 | some x=>
  obtain⟨gs,hgs⟩:=List.getLast?_eq_some_iff.1 hl
  subst hgs
  simp
  omega

theorem putId_range {cs:List (Option Rec)}{gone:List Int}(hg:∀ id∈gone,2≤id∧id-2<(cs.length:Int)∧look cs id=none):2≤putId gone cs.length∧putId gone cs.length≤(cs.length:Int)+2∧look cs (putId gone cs.length)=none:=by
 unfold putId
 cases hl:gone.getLast? with
 | none=>
  refine⟨by simp only [];omega,by simp only [];omega,?_⟩
  simp only []
  cases hk:look cs ((cs.length:Int)+2) with
  | none=>rfl
  | some r=>have:=look_some hk;omega
 | some x=>
  obtain⟨gs,hgs⟩:=List.getLast?_eq_some_iff.1 hl
  obtain⟨h1,h2,h3⟩:=hg x (by rw [hgs];simp)
  exact⟨h1,by simp only [];omega,h3⟩

def St.add (M:St)(r:Rec):St:={ M with cs:=putCs M.cs M.gone r,gone:=M.gone.dropLast }

theorem St.wf.look_add {M:St}(h:M.wf)(r:Rec)(id:Int)(r':Rec):look (M.add r).cs id=some r'↔(id=putId M.gone M.cs.length∧r'=r)∨look M.cs id=some r':=look_put h.gone id r'

theorem St.len_add (M:St)(r:Rec):(M.add r).len=M.len+1:=putLen

theorem St.wf.add {M:St}(h:M.wf){r:Rec}(hno:M.idOf r=none)(hb:M.bad r=false)(hroom:M.len<M.room):(M.add r).wf:=by
 have hl:=h.look_add r
 have hsub:∀ id r',look M.cs id=some r'→look (M.add r).cs id=some r':=fun id r' hh=>(hl id r').2 (.inr hh)
 have hlen:=M.len_add r
 refine⟨h.n0,h.n16,?_,?_,?_,?_,?_,h.room0,h.room1,?_⟩
 ·intro id hid
  replace hid:id∈M.gone.dropLast:=hid
  have hid':id∈M.gone:=(List.dropLast_sublist _).mem hid
  obtain⟨g1,g2,g3⟩:=h.gone id hid'
  refine⟨g1,?_,?_⟩
  ·have:=@set_len_le M.cs M.gone r
   show id-2<((putCs M.cs M.gone r).length:Int)
   omega
  ·cases hk:look (M.add r).cs id with
   | none=>rfl
   | some r'=>
    exfalso
    rcases(hl id r').1 hk with⟨e,_⟩|e
    ·cases hg:M.gone.getLast? with
     | none=>
      have:M.gone=[]:=by simpa using hg
      rw [this] at hid'
      simp at hid'
     | some x=>
      have hx:putId M.gone M.cs.length=x:=by unfold putId;rw [hg]
      obtain⟨gs,hgs⟩:=List.getLast?_eq_some_iff.1 hg
      have hnd:=h.nodup
      rw [hgs] at hnd hid
      simp at hid
      rw [List.nodup_append] at hnd
      exact hnd.2.2 id hid x (by simp) (e.trans hx)
    ·rw [g3] at e
     cases e
 ·exact List.Nodup.sublist (List.dropLast_sublist _) h.nodup
 ·intro id r' hk
  rcases(hl id r').1 hk with⟨_,rfl⟩|hk
  ·exact bad_mono (M:=M) (M':=M.add r') rfl hsub hb
  ·exact bad_mono (M:=M) (M':=M.add r) rfl hsub (h.good id r' hk)
 ·intro r' id id' ha hb'
  rcases(hl id r').1 ha with⟨e1,e3⟩|ha2
  ·rcases(hl id' r').1 hb' with⟨e2,_⟩|hb2
   ·rw [e1,e2]
   ·rw [e3] at hb2;exact(idOf_none hno id' hb2).elim
  ·rcases(hl id' r').1 hb' with⟨_,e3⟩|hb2
   ·rw [e3] at ha2;exact(idOf_none hno id ha2).elim
   ·exact h.once r' id id' ha2 hb2
 ·have:=h.len0;omega
 ·show(M.add r).len≤M.room
  omega

theorem St.wf.find {M:St}(h:M.wf)(r:Rec):(M.findSt r).wf:=by
 unfold St.findSt
 cases hi:M.idOf r with
 | some id=>exact h
 | none=>
  simp only []
  split
  ·exact h
  ·split
   ·exact h
   ·exact h.add hi (by simpa using ‹¬M.bad r=true›) (by omega)

open Go.Sort

def Closed (cs:List (Option Rec))(S:Int→Prop):Prop:=
 ∀ id r,S id→look cs id=some r→(look cs r.lo.to≠none→S r.lo.to)∧(look cs r.hi.to≠none→S r.hi.to)

def Reaches (cs:List (Option Rec))(roots:List Int)(id:Int):Prop:=
 ∀ S:Int→Prop,(∀ e∈roots,look cs e≠none→S e)→Closed cs S→S id

theorem Reaches.root {cs:List (Option Rec)}{roots:List Int}{id:Int}(h:id∈roots)(hl:look cs id≠none):Reaches cs roots id:=fun _ h1 _=>h1 id h hl

theorem Reaches.closed (cs:List (Option Rec))(roots:List Int):Closed cs (Reaches cs roots):=
 fun id r h hl=>⟨fun h1 S hS hC=>((hC id r (h S hS hC) hl).1 h1),fun h1 S hS hC=>((hC id r (h S hS hC) hl).2 h1)⟩

theorem Reaches.some {cs:List (Option Rec)}{roots:List Int}{id:Int}(h:Reaches cs roots id):look cs id≠none:=
 h (fun x=>look cs x≠none) (fun _ _ h=>h) (fun _ _ _ _=>⟨fun h=>h,fun h=>h⟩)

theorem Reaches.mono {cs:List (Option Rec)}{a b:List Int}(h:∀ x∈a,x∈b){id:Int}(hr:Reaches cs a id):Reaches cs b id:=
 fun S hS hC=>hr S (fun e he hl=>hS e (h e he) hl) hC

theorem Reaches.below {cs:List (Option Rec)}{a b:List Int}(h:∀ x∈a,look cs x≠none→Reaches cs b x){id:Int}(hr:Reaches cs a id):Reaches cs b id:=
 fun S hS hC=>hr S (fun e he hl=>h e he hl S hS hC) hC

structure Visit (cs:List (Option Rec))(e:Int)(S T:List Int):Prop where
 here:look cs e≠none→e∈S++T
 shut:∀ id∈T,∀ r,look cs id=some r→(look cs r.lo.to≠none→r.lo.to∈S++T)∧(look cs r.hi.to≠none→r.hi.to∈S++T)
 from':∀ id∈T,Reaches cs [e] id
 once:T.Nodup
 apart:∀ id∈T,id∉S

theorem Visit.none {cs:List (Option Rec)}{e:Int}{S:List Int}(h:look cs e=none):Visit cs e S []:=
 ⟨fun h1=>absurd h h1,by simp,by simp,by simp,by simp⟩

theorem Visit.met {cs:List (Option Rec)}{e:Int}{S:List Int}(h:e∈S):Visit cs e S []:=
 ⟨fun _=>by simpa using h,by simp,by simp,by simp,by simp⟩

theorem Visit.both {cs:List (Option Rec)}{e:Int}{r:Rec}{S T U:List Int}(hl:look cs e=some r)(hn:e∉S)(h1:Visit cs r.lo.to (S++[e]) T)(h2:Visit cs r.hi.to (S++[e]++T) U):Visit cs e S (e::(T++U)):=by
 have ee:S++e::(T++U)=S++[e]++T++U:=by simp
 have hre:Reaches cs [e] e:=Reaches.root (by simp) (by rw [hl];simp)
 refine⟨fun _=>by simp,?_,?_,?_,?_⟩
 ·intro id hid r' hr'
  rw [ee]
  rcases List.mem_cons.1 hid with rfl|hid
  ·rw [hl] at hr'
   cases hr'
   exact⟨fun h=>List.mem_append_left _ (h1.here h),fun h=>h2.here h⟩
  ·rcases List.mem_append.1 hid with hid|hid
   ·exact⟨fun h=>List.mem_append_left _ ((h1.shut id hid r' hr').1 h),fun h=>List.mem_append_left _ ((h1.shut id hid r' hr').2 h)⟩
   ·exact h2.shut id hid r' hr'
 ·intro id hid
  rcases List.mem_cons.1 hid with rfl|hid
  ·exact hre
  ·rcases List.mem_append.1 hid with hid|hid
   ·exact(h1.from' id hid).below (fun x hx hxl=>by rw [List.mem_singleton] at hx;subst hx;exact(Reaches.closed cs [e] e r hre hl).1 hxl)
   ·exact(h2.from' id hid).below (fun x hx hxl=>by rw [List.mem_singleton] at hx;subst hx;exact(Reaches.closed cs [e] e r hre hl).2 hxl)
 ·refine List.nodup_cons.2 ⟨?_,List.nodup_append.2 ⟨h1.once,h2.once,?_⟩⟩
  ·intro hm
   rcases List.mem_append.1 hm with hm|hm
   ·exact h1.apart e hm (by simp)
   ·exact h2.apart e hm (by simp)
  ·intro a ha b hb hab
   subst hab
   exact h2.apart a hb (List.mem_append_right _ ha)
 ·intro id hid hs
  rcases List.mem_cons.1 hid with rfl|hid
  ·exact hn hs
  ·rcases List.mem_append.1 hid with hid|hid
   ·exact h1.apart id hid (by simp [hs])
   ·exact h2.apart id hid (by simp [hs])

structure Visits (cs:List (Option Rec))(es:List Int)(S:List Int):Prop where
 here:∀ e∈es,look cs e≠none→e∈S
 shut:Closed cs (fun id=>id∈S)
 from':∀ id∈S,Reaches cs es id
 once:S.Nodup

theorem Visits.nil (cs:List (Option Rec)):Visits cs [] []:=⟨by simp,fun _ _ h=>by simp at h,by simp,by simp⟩

theorem Visits.step {cs:List (Option Rec)}{es S T:List Int}{e:Int}(h:Visits cs es S)(h1:Visit cs e S T):Visits cs (es++[e]) (S++T):=by
 refine⟨?_,?_,?_,?_⟩
 ·intro x hx hl
  rcases List.mem_append.1 hx with hx|hx
  ·exact List.mem_append_left _ (h.here x hx hl)
  ·rw [List.mem_singleton] at hx;subst hx;exact h1.here hl
 ·intro id r hid hl
  rcases List.mem_append.1 hid with hid|hid
  ·exact⟨fun hh=>List.mem_append_left _ ((h.shut id r hid hl).1 hh),fun hh=>List.mem_append_left _ ((h.shut id r hid hl).2 hh)⟩
  ·exact h1.shut id hid r hl
 ·intro id hid
  rcases List.mem_append.1 hid with hid|hid
  ·exact(h.from' id hid).mono (fun x hx=>List.mem_append_left _ hx)
  ·exact(h1.from' id hid).mono (fun x hx=>List.mem_append_right _ hx)
 ·refine List.nodup_append.2 ⟨h.once,h1.once,?_⟩
  intro a ha b hb hab
  subst hab
  exact h1.apart a hb ha

theorem Visits.iff {cs:List (Option Rec)}{es S:List Int}(h:Visits cs es S)(id:Int):id∈S↔Reaches cs es id:=
 ⟨h.from' id,fun hr=>hr (fun x=>x∈S) (fun e he hl=>h.here e he hl) h.shut⟩

noncomputable def reachL (cs:List (Option Rec))(roots:List Int):List Int:=
 letI:=Classical.propDecidable
 ((List.range cs.length).map (fun i:Nat=>(i:Int)+2)).filter (fun id=>decide (Reaches cs roots id))

theorem mem_reachL {cs:List (Option Rec)}{roots:List Int}{id:Int}:id∈reachL cs roots↔Reaches cs roots id:=by
 unfold reachL
 rw [List.mem_filter]
 simp only [decide_eq_true_eq]
 refine⟨fun h=>h.2,fun h=>⟨?_,h⟩⟩
 cases hl:look cs id with
 | none=>exact absurd hl h.some
 | some r=>
  obtain⟨h1,h2,_⟩:=look_some hl
  exact List.mem_map.2 ⟨(id-2).toNat,List.mem_range.2 (by omega),by omega⟩

theorem reachL_rising (cs:List (Option Rec))(roots:List Int):(reachL cs roots).Pairwise (·<·):=by
 unfold reachL
 refine List.Pairwise.filter _ (List.pairwise_map.2 (List.Pairwise.imp (R:=(·<·)) ?_ List.pairwise_lt_range))
 intro a b h
 omega

theorem rising_eq:∀ {a b:List Int},a.Pairwise (·<·)→b.Pairwise (·<·)→(∀ x,x∈a↔x∈b)→a=b
 | [],[],_,_,_=>rfl
 | [],y::b,_,_,h=>by have:=(h y).2 (by simp);simp at this
 | x::a,[],_,_,h=>by have:=(h x).1 (by simp);simp at this
 | x::a,y::b,ha,hb,h=>by
  obtain⟨a1,a2⟩:=List.pairwise_cons.1 ha
  obtain⟨b1,b2⟩:=List.pairwise_cons.1 hb
  have e:x=y:=by
   have h1:=(h x).1 (by simp)
   have h2:=(h y).2 (by simp)
   rcases List.mem_cons.1 h1 with h1|h1
   ·exact h1
   ·rcases List.mem_cons.1 h2 with h2|h2
    ·exact h2.symm
    ·have:=b1 x h1;have:=a1 y h2;omega
  subst e
  congr 1
  refine rising_eq a2 b2 fun z=>⟨fun hz=>?_,fun hz=>?_⟩
  ·rcases List.mem_cons.1 ((h z).1 (List.mem_cons_of_mem _ hz)) with e|hz'
   ·subst e;have:=a1 z hz;omega
   ·exact hz'
  ·rcases List.mem_cons.1 ((h z).2 (List.mem_cons_of_mem _ hz)) with e|hz'
   ·subst e;have:=b1 z hz;omega
   ·exact hz'

theorem sorted_reachL {cs:List (Option Rec)}{roots S:List Int}{d d':Array Int}(h:Visits cs roots S)(hd:d.toList.Perm S)(hp:PermIn 0 d.size d d')(hs:SortedIn ltInt 0 d.size d'):d'.toList=reachL cs roots:=by
 obtain⟨p1,p2,p3⟩:=hp
 have e1:d.extract 0 d.size=d:=by simp
 have e2:d'.extract 0 d.size=d':=by rw [← p1];simp
 rw [e1,e2] at p3
 have p4:=p3.trans hd
 have hnd:d'.toList.Nodup:=p4.nodup_iff.2 h.once
 refine rising_eq ?_ (reachL_rising _ _) fun x=>?_
 ·rw [List.pairwise_iff_getElem]
  intro i j hi hj hij
  have h1:=hs i j (Nat.zero_le _) hij (by rw [← p1];simpa using hj)
  have hi':i<d'.size:=by simpa using hi
  have hj':j<d'.size:=by simpa using hj
  simp only [ltInt,getElem!_pos d' i hi',getElem!_pos d' j hj',decide_eq_false_iff_not] at h1
  have h2:d'[i]≠d'[j]:=fun e=>by
   have:=(List.getElem_inj (h₀:=hi) (h₁:=hj) hnd).1 (by simpa using e)
   omega
  simp only [Array.getElem_toList]
  omega
 ·rw [p4.mem_iff,h.iff,mem_reachL]

structure GoodRec (M:St)(r:Rec):Prop where
 f1:1≤r.form
 f5:r.form≤5
 tb:r.top≤r.bot
 bn:r.bot<M.n
 chain:r.top=r.bot∨chainedB r.form=true
 lo:M.leads r.form r.lo (r.bot+1)=true
 hi:M.leads r.form r.hi (r.bot+1)=true
 zero:r.form=2∨r.form=4→r.hi.to≠0
 apart:r.form≠2→r.form≠4→r.lo≠r.hi

theorem good_of {M:St}{r:Rec}(h:M.bad r=false):GoodRec M r:=by
 unfold St.bad at h
 simp only [Bool.or_eq_false_iff,Bool.not_eq_false'] at h
 obtain⟨⟨h1,h2⟩,h3⟩:=h
 unfold rightB at h1
 split at h1
 ·cases h1
 ·rename_i c1
  simp only [Bool.or_eq_true,Bool.and_eq_true,Bool.not_eq_true',decide_eq_true_eq,not_or,not_and,bne_iff_ne,ne_eq,Bool.not_eq_false] at c1
  obtain⟨⟨⟨⟨c1,_⟩,c2⟩,c3⟩,c4⟩:=c1
  have c1:isFormB r.form=true:=by cases h:isFormB r.form<;>simp_all
  unfold isFormB at c1
  simp only [Bool.and_eq_true,decide_eq_true_eq] at c1
  split at h1
  ·cases h1
  ·refine⟨by omega,by omega,by omega,by omega,?_,h2,h3,?_,?_⟩
   ·by_cases he:r.top=r.bot
    ·exact .inl he
    ·exact .inr (c4 he)
   ·intro hf
    have:(r.form==2||r.form==4)=true:=by simpa using hf
    rw [if_pos this] at h1
    simpa using h1
   ·intro n2 n4 he
    have:¬(r.form==2||r.form==4)=true:=by simp [n2,n4]
    rw [if_neg this,he] at h1
    simp at h1

theorem St.wf.goodRec {M:St}(h:M.wf){id:Int}{r:Rec}(hl:look M.cs id=some r):GoodRec M r:=good_of (h.good id r hl)

theorem leads_cases {M:St}{f:Int}{e:Edge}{l:Int}(h:M.leads f e l=true):plainB f e l M.n=true∧(e.to<2∨∃ r,look M.cs e.to=some r∧r.form=f∧l≤r.top∧e.tag≤r.top):=by
 unfold St.leads at h
 simp only [Bool.and_eq_true,Bool.or_eq_true,decide_eq_true_eq] at h
 refine⟨h.1,?_⟩
 rcases h.2 with h2|h2
 ·exact .inl h2
 ·right
  cases hk:look M.cs e.to with
  | none=>rw [hk] at h2;cases h2
  | some r=>
   rw [hk] at h2
   simp only [Bool.and_eq_true,decide_eq_true_eq,beq_iff_eq] at h2
   exact⟨r,rfl,h2.1.1,h2.1.2,h2.2⟩

theorem child_top {M:St}(h:M.wf){id:Int}{r r':Rec}(hl:look M.cs id=some r){e:Edge}(he:e=r.lo∨e=r.hi)(hc:look M.cs e.to=some r'):r.top<r'.top∧r'.form=r.form:=by
 have g:=h.goodRec hl
 have h2:=(look_some hc).1
 have hle:M.leads r.form e (r.bot+1)=true:=by rcases he with rfl|rfl;exact g.lo;exact g.hi
 rcases(leads_cases hle).2 with h3|⟨x,hx,hf,ht,_⟩
 ·omega
 ·rw [hc] at hx
  cases hx
  have:=g.tb
  exact⟨by omega,hf⟩

end Go.Proofs.YtpgcbmbnognieaaGreat
