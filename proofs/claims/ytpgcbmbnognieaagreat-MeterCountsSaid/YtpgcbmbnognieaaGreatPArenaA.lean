/-
  Walks of package arena.
-/
import Derived.Test.YtpgcbmbnognieaaGreatPFindA
namespace Go.Proofs.YtpgcbmbnognieaaGreat
set_option linter.unusedSimpArgs false
set_option linter.unusedVariables false
set_option maxHeartbeats 600000
open Go.RowKit

theorem at_less (ab:Nat) (id:Int) (cs:Option Addr) (len cap:Nat) (w:World) (h1:id ≤ 4294967295)
  (hc:w.cell? ⟨ab,0,none⟩=some (.slice cs len cap)) (hlen:len ≤ 1048576) (h:id < 2) :
  Calls Tryz.prog 198 #[.pointer (some ⟨ab,0,none⟩),.int .u32 id] w fun r w'=>r=.returned (.pointer none) ∧ w=w':=by
 go_enter Tryz.func198,Tryz.ntmps198
 go_wp2
 go_ret
 exact ⟨rfl,rfl⟩

theorem at_more (ab:Nat) (id:Int) (cs:Option Addr) (len cap:Nat) (w:World) (h0:2 ≤ id) (h1:id ≤ 4294967295)
  (hc:w.cell? ⟨ab,0,none⟩=some (.slice cs len cap)) (hlen:len ≤ 1048576) (h:(len:Int) ≤ id - 2) :
  Calls Tryz.prog 198 #[.pointer (some ⟨ab,0,none⟩),.int .u32 id] w fun r w'=>r=.returned (.pointer none) ∧ w=w':=by
 go_enter Tryz.func198,Tryz.ntmps198
 go_wp2
 go_ret
 exact ⟨rfl,rfl⟩

theorem at_free (ab cb:Nat) (id:Int) (len cap:Nat) (w:World) (h0:2 ≤ id) (h1:id ≤ 4294967295)
  (hc:w.cell? ⟨ab,0,none⟩=some (.slice (some ⟨cb,0,none⟩) len cap)) (hlen:len ≤ 1048576) (h:id - 2 < (len:Int))
  (hin:w.cell? ⟨cb,(id - 2).toNat * 9 + 7,none⟩=some (.bool false)) :
  Calls Tryz.prog 198 #[.pointer (some ⟨ab,0,none⟩),.int .u32 id] w fun r w'=>r=.returned (.pointer none) ∧ w=w':=by
 go_enter Tryz.func198,Tryz.ntmps198
 go_wp2
 go_ret
 exact ⟨rfl,rfl⟩

theorem at_held (ab cb:Nat) (id:Int) (len cap:Nat) (w:World) (h0:2 ≤ id) (h1:id ≤ 4294967295)
  (hc:w.cell? ⟨ab,0,none⟩=some (.slice (some ⟨cb,0,none⟩) len cap)) (hlen:len ≤ 1048576) (h:id - 2 < (len:Int))
  (hin:w.cell? ⟨cb,(id - 2).toNat * 9 + 7,none⟩=some (.bool true)) :
  Calls Tryz.prog 198 #[.pointer (some ⟨ab,0,none⟩),.int .u32 id] w fun r w'=>r=.returned (.pointer (some ⟨cb,(id - 2).toNat * 9,none⟩)) ∧ w=w':=by
 go_enter Tryz.func198,Tryz.ntmps198
 go_wp2
 go_ret
 exact ⟨rfl,rfl⟩

theorem get_none (ab:Nat) (id:Int) (w:World)
  (hat:∀ W,Keeps w W → Calls Tryz.prog 198 #[.pointer (some ⟨ab,0,none⟩),.int .u32 id] W fun r w'=>r=.returned (.pointer none) ∧ W=w') :
  Calls Tryz.prog 145 #[.pointer (some ⟨ab,0,none⟩),.int .u32 id] w fun r w'=>
   r=.returned (.tuple #[.agg #[.int .u8 0,.int .u8 0,.int .u8 0,.int .u8 0,.int .u32 0,.int .u8 0,.int .u32 0],.bool false]) ∧ Keeps w w':=by
 have H:=Lib.hid hat
 clear hat
 go_enter Tryz.func145,Tryz.ntmps145
 go_wp2_with (first | (refine (H.out _ (by (exact kp))).mono ?_;rintro e w' ⟨rfl,rfl⟩) | fail)
 refine bodyPost_ret (v:=.tuple #[.agg #[.int .u8 0,.int .u8 0,.int .u8 0,.int .u8 0,.int .u32 0,.int .u8 0,.int .u32 0],.bool false]) (by simp [results,Tryz.results145,go_sem]) rfl ⟨rfl,by (exact kp)⟩

theorem get_some (ab cb:Nat) (id:Int) (r:Rec) (w:World)
  (hat:∀ W,Keeps w W → Calls Tryz.prog 198 #[.pointer (some ⟨ab,0,none⟩),.int .u32 id] W fun r w'=>r=.returned (.pointer (some ⟨cb,(id - 2).toNat * 9,none⟩)) ∧ W=w')
  (h0:w.cell? ⟨cb,(id - 2).toNat * 9,none⟩=some (.int .u8 r.form)) (h1:w.cell? ⟨cb,(id - 2).toNat * 9 + 1,none⟩=some (.int .u8 r.top))
  (h2:w.cell? ⟨cb,(id - 2).toNat * 9 + 2,none⟩=some (.int .u8 r.bot)) (h3:w.cell? ⟨cb,(id - 2).toNat * 9 + 3,none⟩=some (.int .u8 r.lo.tag))
  (h4:w.cell? ⟨cb,(id - 2).toNat * 9 + 4,none⟩=some (.int .u32 r.lo.to)) (h5:w.cell? ⟨cb,(id - 2).toNat * 9 + 5,none⟩=some (.int .u8 r.hi.tag))
  (h6:w.cell? ⟨cb,(id - 2).toNat * 9 + 6,none⟩=some (.int .u32 r.hi.to)) :
  Calls Tryz.prog 145 #[.pointer (some ⟨ab,0,none⟩),.int .u32 id] w fun e w'=>
   e=.returned (.tuple #[.agg #[.int .u8 r.form,.int .u8 r.top,.int .u8 r.bot,.int .u8 r.lo.tag,.int .u32 r.lo.to,.int .u8 r.hi.tag,.int .u32 r.hi.to],.bool true]) ∧ Keeps w w':=by
 have H:=Lib.hid hat
 clear hat
 have hlt:=lt_of_cell h0
 dsimp only at hlt
 have hne:cb ≠ w.heap.size:=by omega
 go_enter Tryz.func145,Tryz.ntmps145
 go_wp2_with (first | (refine (H.out _ (by (exact kp))).mono ?_;rintro e w' ⟨rfl,rfl⟩) | fail)
 go_outline
 refine bodyPost_ret (v:=.tuple #[.agg #[.int .u8 r.form,.int .u8 r.top,.int .u8 r.bot,.int .u8 r.lo.tag,.int .u32 r.lo.to,.int .u8 r.hi.tag,.int .u32 r.hi.to],.bool true]) (by simp [results,Tryz.results145,go_sem]) rfl ⟨rfl,by (exact kp)⟩

theorem put_full (ab:Nat) (r:Rec) (cnt room:Int) (w:World) 
  (h2:w.cell? ⟨ab,2,none⟩=some (.int .i64 cnt)) (h3:w.cell? ⟨ab,3,none⟩=some (.int .i64 room)) (hfull:room ≤ cnt) :
  Calls Tryz.prog 131 #[.pointer (some ⟨ab,0,none⟩),.agg #[.int .u8 r.form,.int .u8 r.top,.int .u8 r.bot,.int .u8 r.lo.tag,.int .u32 r.lo.to,.int .u8 r.hi.tag,.int .u32 r.hi.to]] w fun e w'=>
   e=.returned (.tuple #[.int .u32 0,.bool false]) ∧ Keeps w w':=by
 have hab:ab < w.heap.size:=lt_of_cell h2
 go_enter Tryz.func131,Tryz.ntmps131
 go_wp2
 go_quiet (fail)
 go_wp2
 go_ret2
 exact ⟨rfl,by (exact kp)⟩

theorem info_cell:(Tryz.prog.info? 270).map (fun i=>(i.zero,i.size,i.bytes))=some (some (.agg #[.int .u8 0,.int .u8 0,.int .u8 0,.int .u8 0,.int .u32 0,.int .u8 0,.int .u32 0,.bool false,.int .i64 0]),9,32):=by kernel_rfl

set_option maxRecDepth 100000 in
theorem put_more (ab:Nat) (r:Rec) (cv:Value) (n:Nat) (xs:List Value) (cnt room:Int) (w:World) (a1:Option Addr) (c1:Nat)
  (h0:w.cell? ⟨ab,0,none⟩=some cv) (h1:w.cell? ⟨ab,1,none⟩=some (.slice a1 0 c1))
  (h2:w.cell? ⟨ab,2,none⟩=some (.int .i64 cnt)) (h3:w.cell? ⟨ab,3,none⟩=some (.int .i64 room)) (hfull:cnt < room) (hroom:room ≤ 1048576) (hcnt:0 ≤ cnt)
  (hf0:w.frozen? ⟨ab,0,none⟩=false) (hf2:w.frozen? ⟨ab,2,none⟩=false)
  (hown:w.ownsRow 0 270 9 cv n xs) (hn:n < 1048576) (hne:cv.ownBlock ≠ some ab) :
  Calls Tryz.prog 131 #[.pointer (some ⟨ab,0,none⟩),.agg #[.int .u8 r.form,.int .u8 r.top,.int .u8 r.bot,.int .u8 r.lo.tag,.int .u32 r.lo.to,.int .u8 r.hi.tag,.int .u32 r.hi.to]] w fun e w'=>
   e=.returned (.tuple #[.int .u32 (n + 2),.bool true]) ∧ ∃ g cap w1 W,Upd (fun k=>k=ab) w W ∧ (∀ cs,w.heap[ab]?=some (.cells cs 243 (0,0)) → W.heap[ab]?=some (.cells (cs.setIfInBounds 2 (.int .i64 (cnt + 1))) 243 (0,0))) ∧ W.grownBy w1 cv.ownBlock ∧ (cv.ownBlock=some g ∨ W.heap.size ≤ g) ∧ w1.ownsRow 0 270 9 (.slice (some ⟨g,0,none⟩) (n + 1) cap) (n + 1) (xs ++ cellVals (some r)) ∧ w'=w1.setCell ⟨ab,0,none⟩ (.slice (some ⟨g,0,none⟩) (n + 1) cap):=by
 have hab:ab < w.heap.size:=lt_of_cell h2
 have hab1:ab < w.heap.size + 1:=by omega
 have hab2:ab < w.heap.size + 1 + 1:=by omega
 have hab3:ab < w.heap.size + 1 + 1 + 1:=by omega
 have hcv:cv.oneCell'=true:=by obtain ⟨_,_,rfl,_⟩:=owns_slice hown;rfl
 obtain ⟨i0,hi,hz0,hz1,hz2⟩:=info_parts info_cell
 have HN:=Lib.hid hne
 have HO:=Lib.hid hown
 clear hne hown
 go_enter Tryz.func131,Tryz.ntmps131
 go_wp2
 go_quiet (fail)
 go_wp2
 go_region_law (refine step_append_own rfl (.tmp 68) (.tmp 70) 241 rfl 0 270 i0 _ 9 32 Tryz.underlying241 hi hz0 hz1 hz2 rfl (by decide) cv n xs rfl ?_ _ 1 1 (cellVals (some r)) rfl rfl ?_ ?_ ?_ ?_ (Nat.zero_le _) ?_;exact Upd.owns (F:=fun k=>k=ab) (by (exact up)) (fun k h e=>HN.out (e ▸ h)) HO.out;exact cell_newd _ _ _ _ (by simp);(intro u hu;simp [cellVals,recVals] at hu;rcases hu with rfl | rfl | rfl | rfl | rfl | rfl | rfl | rfl | rfl <;> rfl);(unfold maxLen;omega);omega;intro v' w1 hown1 hgrow hfresh;(obtain ⟨g,cap,rfl⟩:=owns_shape hown1 (by omega));have k0:=grown_cell (o:=0) (v:=cv) hgrow HN.out (by simp [go_sem,h0,hab,hab1,hab2,hab3]);have e0:=grown_frozen (o:=0) hgrow (by simp;omega) HN.out (by simp [go_sem,hf0,hab,hab1,hab2,hab3]))
 all_goals go_wp2
 all_goals go_ret2
 all_goals refine ⟨?_,g,cap,w1,_,?_,?_,hgrow,hfresh g rfl,hown1,rfl⟩
 all_goals first | ((exact up);done) | (simp;done) | skip
 all_goals (intro cs hcs;have e1:((w.alloc (.cells #[.int .u8 r.form,.int .u8 r.top,.int .u8 r.bot,.int .u8 r.lo.tag,.int .u32 r.lo.to,.int .u8 r.hi.tag,.int .u32 r.hi.to] 125)).drewN nq).heap[ab]?=some (.cells cs 243 (0,0)):=(Below.heap_alloc w _ ab hab).trans hcs)
 all_goals (have e2:=heap_setCell_same _ ab 2 _ _ (.int .i64 (cnt + 1)) e1;have e3:=lt_of_heap e2;(repeat (first | exact e2 | refine (Below.heap_alloc _ _ _ (by simp at e3 ⊢;omega)).trans ?_ | (show (World.alloc _ _).heap[ab]?=_))))

set_option maxRecDepth 100000 in
theorem put_free (ab cb fb:Nat) (r:Rec) (id:Int) (k len cap fcap:Nat) (c0 c1 c2 c3 c4 c5 c6 c7 c8:Value) (cnt room:Int) (w:World)
  (h0:w.cell? ⟨ab,0,none⟩=some (.slice (some ⟨cb,0,none⟩) len cap)) (h1:w.cell? ⟨ab,1,none⟩=some (.slice (some ⟨fb,0,none⟩) (k + 1) fcap))
  (h2:w.cell? ⟨ab,2,none⟩=some (.int .i64 cnt)) (h3:w.cell? ⟨ab,3,none⟩=some (.int .i64 room)) (hfull:cnt < room) (hroom:room ≤ 1048576) (hcnt:0 ≤ cnt)
  (hf1:w.frozen? ⟨ab,1,none⟩=false) (hf2:w.frozen? ⟨ab,2,none⟩=false) (hk:k < 1048576) (hkc:k + 1 ≤ fcap) (hlen:len ≤ 1048576)
  (hid:w.cell? ⟨fb,k,none⟩=some (.int .u32 id)) (hid0:2 ≤ id) (hid1:id ≤ 4294967295) (hidl:id - 2 < (len:Int))
  (g0:w.cell? ⟨cb,(id - 2).toNat * 9,none⟩=some c0) (g1:w.cell? ⟨cb,(id - 2).toNat * 9 + 1,none⟩=some c1) (g2:w.cell? ⟨cb,(id - 2).toNat * 9 + 2,none⟩=some c2)
  (g3:w.cell? ⟨cb,(id - 2).toNat * 9 + 3,none⟩=some c3) (g4:w.cell? ⟨cb,(id - 2).toNat * 9 + 4,none⟩=some c4) (g5:w.cell? ⟨cb,(id - 2).toNat * 9 + 5,none⟩=some c5)
  (g6:w.cell? ⟨cb,(id - 2).toNat * 9 + 6,none⟩=some c6) (g7:w.cell? ⟨cb,(id - 2).toNat * 9 + 7,none⟩=some c7) (g8:w.cell? ⟨cb,(id - 2).toNat * 9 + 8,none⟩=some c8)
  (hfr:∀ j,w.frozen? ⟨cb,j,none⟩=false) (hne:cb ≠ ab) (hne':ab ≠ cb) (hnf:fb ≠ ab) :
  Calls Tryz.prog 131 #[.pointer (some ⟨ab,0,none⟩),.agg #[.int .u8 r.form,.int .u8 r.top,.int .u8 r.bot,.int .u8 r.lo.tag,.int .u32 r.lo.to,.int .u8 r.hi.tag,.int .u32 r.hi.to]] w fun e w'=>
   e=.returned (.tuple #[.int .u32 id,.bool true]) ∧ ∃ W O,Upd (fun k=>k=ab) w W ∧ (∀ cs,w.heap[ab]?=some (.cells cs 243 (0,0)) → W.heap[ab]?=some (.cells ((cs.setIfInBounds 2 (.int .i64 (cnt + 1))).setIfInBounds 1 (.slice (some ⟨fb,0,none⟩) k fcap)) 243 (0,0))) ∧ w'=((set9 W cb ((id - 2).toNat * 9) (cellVals (some r))).alloc O).drew:=by
 have hab:ab < w.heap.size:=lt_of_cell h2
 have hcb:cb < w.heap.size:=lt_of_cell g0
 have hfb:fb < w.heap.size:=lt_of_cell hid
 have hab1:ab < w.heap.size + 1:=by omega
 have hcb1:cb < w.heap.size + 1:=by omega
 have hfb1:fb < w.heap.size + 1:=by omega
 go_enter Tryz.func131,Tryz.ntmps131
 go_wp2
 go_quiet (fail)
 go_wp2
 go_region
 go_wp2
 go_ret2
 refine ⟨rfl,?wW,?oO,?pA,?pB,?pC⟩
 case pC=>
  simp only [set9,cellVals,recVals,List.cons_append,List.nil_append]
  rfl
 case pA=>(exact up)
 case pB=>
  intro cs hcs
  have e1:((w.alloc (.cells #[.int .u8 r.form,.int .u8 r.top,.int .u8 r.bot,.int .u8 r.lo.tag,.int .u32 r.lo.to,.int .u8 r.hi.tag,.int .u32 r.hi.to] 125)).drewN nq).heap[ab]?=some (.cells cs 243 (0,0)):=(Below.heap_alloc w _ ab hab).trans hcs
  exact heap_setCell_same _ ab 1 _ _ _ (heap_setCell_same _ ab 2 _ _ _ e1)

theorem arena_get_none {F:Nat → Prop} {w:World} {ab:Nat} {cs:List (Option Rec)} {gone:List Int} {cnt room:Int} (h:ArenaRep F w ab cs gone cnt room) (id:Int) (hid:id ≤ 4294967295) (hl:look cs id=none) :
  Calls Tryz.prog 145 #[.pointer (some ⟨ab,0,none⟩),.int .u32 id] w fun r w'=>
   r=.returned (.tuple #[.agg #[.int .u8 0,.int .u8 0,.int .u8 0,.int .u8 0,.int .u32 0,.int .u8 0,.int .u32 0],.bool false]) ∧ Keeps w w':=by
 have hfew:=h.few
 obtain ⟨a,cap,h0,hc⟩:=h.cell
 refine get_none ab id w (fun W hW=>?_)
 rcases look_none hl with h2 | ⟨h2,h3⟩ | ⟨h2,h3,h4⟩
 ·exact at_less ab id a cs.length cap W hid (hW.cell h0) hfew h2
 ·exact at_more ab id a cs.length cap W h2 hid (hW.cell h0) hfew h3
 ·obtain ⟨cb,rfl,_,_,hv,_⟩:=hc (by omega)
  exact at_free ab cb id cs.length cap W h2 hid (hW.cell h0) hfew h3 (hW.cell (hv _ _ h4 7 (by omega)))

theorem arena_get_some {F:Nat → Prop} {w:World} {ab:Nat} {cs:List (Option Rec)} {gone:List Int} {cnt room:Int} (h:ArenaRep F w ab cs gone cnt room) (id:Int) (hid:id ≤ 4294967295) (r:Rec) (hl:look cs id=some r) :
  Calls Tryz.prog 145 #[.pointer (some ⟨ab,0,none⟩),.int .u32 id] w fun e w'=>
   e=.returned (.tuple #[.agg #[.int .u8 r.form,.int .u8 r.top,.int .u8 r.bot,.int .u8 r.lo.tag,.int .u32 r.lo.to,.int .u8 r.hi.tag,.int .u32 r.hi.to],.bool true]) ∧ Keeps w w':=by
 have hfew:=h.few
 obtain ⟨a,cap,h0,hc⟩:=h.cell
 obtain ⟨h2,h3,h4⟩:=look_some hl
 obtain ⟨cb,rfl,_,_,hv,_⟩:=hc (by omega)
 have hv:=hv _ _ h4
 exact get_some ab cb id r w (fun W hW=>at_held ab cb id cs.length cap W h2 hid (hW.cell h0) hfew h3 (hW.cell (hv 7 (by omega))))
  (hv 0 (by omega)) (hv 1 (by omega)) (hv 2 (by omega)) (hv 3 (by omega)) (hv 4 (by omega)) (hv 5 (by omega)) (hv 6 (by omega))

theorem arena_get {F:Nat → Prop} {w:World} {ab:Nat} {cs:List (Option Rec)} {gone:List Int} {cnt room:Int} (h:ArenaRep F w ab cs gone cnt room) (id:Int) (hid:id ≤ 4294967295) :
  Calls Tryz.prog 145 #[.pointer (some ⟨ab,0,none⟩),.int .u32 id] w fun e w'=>
   e=.returned (.tuple #[.agg #[.int .u8 (grec (look cs id)).form,.int .u8 (grec (look cs id)).top,.int .u8 (grec (look cs id)).bot,.int .u8 (grec (look cs id)).lo.tag,.int .u32 (grec (look cs id)).lo.to,.int .u8 (grec (look cs id)).hi.tag,.int .u32 (grec (look cs id)).hi.to],.bool (gsome (look cs id))]) ∧ Keeps w w':=by
 cases hl:look cs id with
 | none=>exact arena_get_none h id hid hl
 | some r=>exact arena_get_some h id hid r hl

theorem arena_len {F:Nat → Prop} {w:World} {ab:Nat} {cs:List (Option Rec)} {gone:List Int} {cnt room:Int} (h:ArenaRep F w ab cs gone cnt room) :
  Calls Tryz.prog 108 #[.pointer (some ⟨ab,0,none⟩)] w fun e w'=>e=.returned (.int .i64 cnt) ∧ w=w':=by
 obtain ⟨⟨cv,fv,h1,_⟩,_⟩:=h
 have hc:=cell_of_row w ab 2 _ _ _ h1
 simp at hc
 clear h1
 go_enter Tryz.func108,Tryz.ntmps108
 go_wp2
 go_ret
 exact ⟨rfl,rfl⟩

theorem arena_room {F:Nat → Prop} {w:World} {ab:Nat} {cs:List (Option Rec)} {gone:List Int} {cnt room:Int} (h:ArenaRep F w ab cs gone cnt room) :
  Calls Tryz.prog 144 #[.pointer (some ⟨ab,0,none⟩)] w fun e w'=>e=.returned (.int .i64 room) ∧ w=w':=by
 obtain ⟨⟨cv,fv,h1,_⟩,_⟩:=h
 have hc:=cell_of_row w ab 3 _ _ _ h1
 simp at hc
 clear h1
 go_enter Tryz.func144,Tryz.ntmps144
 go_wp2
 go_ret
 exact ⟨rfl,rfl⟩

theorem arena_new (room:Int) (w:World) (h0:0 ≤ room) (h1:room ≤ 1048576) :
  Calls Tryz.prog 126 #[.int .i64 room] w fun e w'=>e=.returned (.tuple #[.pointer (some ⟨w.heap.size,0,none⟩),.int .u8 0]) ∧ w'=w.alloc (.cells #[.slice none 0 0,.slice none 0 0,.int .i64 0,.int .i64 room] 243):=by
 go_enter Tryz.func126,Tryz.ntmps126
 go_wp2
 go_ret2
 exact ⟨rfl,rfl⟩

def putId (gone:List Int) (len:Nat):Int:=match gone.getLast? with | some id=>id | none=>(len:Int) + 2

def putCs (cs:List (Option Rec)) (gone:List Int) (r:Rec):List (Option Rec):=
 match gone.getLast? with | some id=>cs.set (id - 2).toNat (some r) | none=>cs ++ [some r]

theorem set_len_le {cs:List (Option Rec)} {gone:List Int} {r:Rec}:cs.length ≤ (putCs cs gone r).length:=by
 unfold putCs;split <;> simp

theorem arena_put_full {F:Nat → Prop} {w:World} {ab:Nat} {cs:List (Option Rec)} {gone:List Int} {cnt room:Int} (h:ArenaRep F w ab cs gone cnt room) (r:Rec) (hfull:room ≤ cnt) :
  Calls Tryz.prog 131 #[.pointer (some ⟨ab,0,none⟩),.agg #[.int .u8 r.form,.int .u8 r.top,.int .u8 r.bot,.int .u8 r.lo.tag,.int .u32 r.lo.to,.int .u8 r.hi.tag,.int .u32 r.hi.to]] w fun e w'=>
   e=.returned (.tuple #[.int .u32 0,.bool false]) ∧ Keeps w w':=by
 obtain ⟨⟨cv,fv,h1,_⟩,_⟩:=h
 exact put_full ab r cnt room w (by rw [cell_of_row w ab 2 _ _ _ h1];rfl) (by rw [cell_of_row w ab 3 _ _ _ h1];rfl) hfull

theorem arena_put {F:Nat → Prop} {w:World} {ab:Nat} {cs:List (Option Rec)} {gone:List Int} {cnt room:Int} (h:ArenaRep F w ab cs gone cnt room) (r:Rec) (hr:r.ok) (hroom:cnt < room) :
  Calls Tryz.prog 131 #[.pointer (some ⟨ab,0,none⟩),.agg #[.int .u8 r.form,.int .u8 r.top,.int .u8 r.bot,.int .u8 r.lo.tag,.int .u32 r.lo.to,.int .u8 r.hi.tag,.int .u32 r.hi.to]] w fun e w'=>
   e=.returned (.tuple #[.int .u32 (putId gone cs.length),.bool true]) ∧ Upd F w w' ∧ ArenaRep (Grow F w w') w' ab (putCs cs gone r) gone.dropLast (cnt + 1) room:=by
 have hcell:=h.cell
 obtain ⟨⟨cv,fv,h1,h2,h3,h4,h5⟩,a2,a3,a4,a5,a6,a7,a8⟩:=h
 have c0:w.cell? ⟨ab,0,none⟩=some cv:=by rw [cell_of_row w ab 0 _ _ _ h1];rfl
 have c1:w.cell? ⟨ab,1,none⟩=some fv:=by rw [cell_of_row w ab 1 _ _ _ h1];rfl
 have c2:w.cell? ⟨ab,2,none⟩=some (.int .i64 cnt):=by rw [cell_of_row w ab 2 _ _ _ h1];rfl
 have c3:w.cell? ⟨ab,3,none⟩=some (.int .i64 room):=by rw [cell_of_row w ab 3 _ _ _ h1];rfl
 have hfz:∀ o,w.frozen? ⟨ab,o,none⟩=false:=fun o=>frozen_of_row w ab o _ _ h1
 have hab:=lt_of_heap h1
 cases hg:gone.getLast? with
 | none=>
  have hg0:gone=[]:=by simpa using hg
  subst hg0
  obtain ⟨a1,k1,rfl,_⟩:=owns_slice h3
  have hne:cv.ownBlock ≠ some ab:=by
   intro e
   obtain ⟨cur,hcur⟩:=owns_type h2 e
   exact ne_of_type hcur h1 (by decide) rfl
  simp only [List.length_nil] at a4 c1
  refine (put_more ab r cv cs.length (cs.flatMap cellVals) cnt room w a1 k1 c0 c1 c2 c3 hroom a6 a5 (hfz 0) (hfz 2) h2 (by omega) hne).mono ?_
  rintro e w' ⟨rfl,g,cap,w1,W,hu,hW,hgr,hfr,hown,rfl⟩
  have hW:=hW _ h1
  simp at hW
  have habW:ab < W.heap.size:=Nat.lt_of_lt_of_le hab hu.size
  have h1W:w1.heap[ab]?=some (.cells #[cv,.slice a1 0 k1,.int .i64 (cnt + 1),.int .i64 room] 243 (0,0)):=(hgr.block ab habW (fun e=>hne e.symm)).trans hW
  have hgne:ab ≠ g:=by
   intro e
   obtain ⟨cur,hcur⟩:=owns_type hown (k:=g) rfl
   exact ne_of_type h1W hcur (by decide) e
  have hupd:Upd F w w1:=(hu.mono (fun k _ e=>by simpa [e] using a2)).grown hgr (fun k hk=>.inl (h4 k hk))
  refine ⟨by simp [putId],hupd.setCell (p:=⟨ab,0,none⟩) (.inl a2) _,⟨⟨.slice (some ⟨g,0,none⟩) (cs.length + 1) cap,.slice a1 0 k1,?_,?_,?_,?_,?_⟩,?_,?_,?_,?_,a6,?_,?_⟩⟩
  ·exact heap_setCell_same _ ab 0 _ _ _ h1W
  ·have:=Upd.owns (F:=fun k=>k=ab) (Upd.setCell (F:=fun k=>k=ab) (p:=⟨ab,0,none⟩) (Upd.refl _ w1) (Or.inl rfl) (.slice (some ⟨g,0,none⟩) (cs.length + 1) cap)) (fun k hk e=>hgne (by simp [Value.ownBlock] at hk;omega)) hown
   simpa [putCs,List.flatMap_append] using this
  ·have:=World.ownsRow_nil (w1.setCell ⟨ab,0,none⟩ (.slice (some ⟨g,0,none⟩) (cs.length + 1) cap)) 0 23 1
   obtain ⟨q1,q2⟩:=h3
   refine ⟨by simp,?_⟩
   rcases q2 with ⟨q2,_⟩ | ⟨fg,fcap,fcur,q2,q3,q4,q5⟩
   ·exact .inl ⟨by simpa using q2,rfl⟩
   ·simp at q2
    obtain ⟨rfl,rfl⟩:=q2
    have hfa:fg ≠ ab:=ne_of_type q4 h1 (by decide)
    refine .inr ⟨fg,k1,fcur,rfl,q3,?_,by simpa using q5⟩
    rw [heap_setCell_other _ _ _ _ hfa]
    have hfc:some fg ≠ cv.ownBlock:=by
     intro e
     obtain ⟨cur,hcur⟩:=owns_type h2 e.symm
     exact ne_of_type q4 hcur (by decide) rfl
    rw [hgr.block fg (Nat.lt_of_lt_of_le (lt_of_heap q4) hu.size) hfc,hu.block fg (lt_of_heap q4) hfa]
    exact q4
  ·intro k hk
   simp [Value.ownBlock] at hk
   subst hk
   rcases hfr with hfr | hfr
   ·exact .inl (h4 _ hfr)
   ·refine .inr ⟨Nat.le_trans hu.size hfr,?_⟩
    obtain ⟨cur,hcur⟩:=owns_type hown (k:=g) rfl
    have:=lt_of_heap hcur
    rw [World.size_setCell]
    exact this
  ·intro k hk
   exact .inl (h5 k hk)
  ·exact .inl a2
  ·simp [putCs];omega
  ·simp [putCs];omega
  ·omega
  ·intro id hid
   simp at hid
  ·intro x hx
   simp [putCs] at hx
   rcases hx with hx | rfl
   ·exact a8 x hx
   ·exact hr
 | some id=>
  obtain ⟨gs,hgs⟩:∃ gs,gone=gs ++ [id]:=List.getLast?_eq_some_iff.1 hg
  subst hgs
  obtain ⟨hid0,hid1⟩:=a7 id (by simp)
  obtain ⟨fa,fcap,rfl,hfs⟩:=owns_slice h3
  obtain ⟨fb,rfl⟩:=hfs (by simp)
  obtain ⟨a,cap,c0',hc⟩:=hcell
  obtain ⟨cb,rfl,hcab,hFcb,hv,hcf⟩:=hc (by omega)
  obtain rfl:cv=.slice (some ⟨cb,0,none⟩) cs.length cap:=by rw [c0] at c0';simpa using c0'
  obtain ⟨fcur,hfcur⟩:=owns_type h3 (k:=fb) rfl
  have hfab:fb ≠ ab:=ne_of_type hfcur h1 (by decide)
  have hlen:(gs ++ [id]).length=gs.length + 1:=by simp
  rw [hlen] at c1 h3 a4
  have hidc:w.cell? ⟨fb,gs.length,none⟩=some (.int .u32 id):=by
   rw [h3.cellAt gs.length (by omega)]
   simp
  have hlt:(id - 2).toNat < cs.length:=by omega
  obtain ⟨c,hcc⟩:∃ c,cs[(id - 2).toNat]?=some c:=⟨_,List.getElem?_eq_getElem hlt⟩
  have hvv:=hv _ _ hcc
  have hfcap:gs.length + 1 ≤ fcap:=by
   rcases h3.2 with ⟨q,_⟩ | ⟨_,_,_,q,_,_,q5,_⟩
   ·simp at q
   ·simp at q
    omega
  have hget:∀ j,j < 9 → ∃ x,w.cell? ⟨cb,(id - 2).toNat * 9 + j,none⟩=some x:=fun j hj=>by
   rw [hvv j hj]
   exact ⟨_,List.getElem?_eq_getElem (by rw [cellVals_length];exact hj)⟩
  obtain ⟨x0,g0⟩:=hget 0 (by omega)
  obtain ⟨x1,g1⟩:=hget 1 (by omega)
  obtain ⟨x2,g2⟩:=hget 2 (by omega)
  obtain ⟨x3,g3⟩:=hget 3 (by omega)
  obtain ⟨x4,g4⟩:=hget 4 (by omega)
  obtain ⟨x5,g5⟩:=hget 5 (by omega)
  obtain ⟨x6,g6⟩:=hget 6 (by omega)
  obtain ⟨x7,g7⟩:=hget 7 (by omega)
  obtain ⟨x8,g8⟩:=hget 8 (by omega)
  refine (put_free ab cb fb r id gs.length cs.length cap fcap x0 x1 x2 x3 x4 x5 x6 x7 x8 cnt room w c0 c1 c2 c3 hroom a6 a5 (hfz 1) (hfz 2) (by omega) hfcap a3 hidc hid0 (by omega) hid1 g0 g1 g2 g3 g4 g5 g6 g7 g8 hcf hcab hcab.symm hfab).mono ?_
  rintro e w' ⟨rfl,W,O,hu,hW,rfl⟩
  have hW:=hW _ h1
  simp at hW
  have u9:=set9_upd cb (cellVals (some r)) ((id - 2).toNat * 9) W
  have h2W:=hu.owns (fun k hk e=>hcab (by simp [Value.ownBlock] at hk;omega)) h2
  have h9:=set9_owns cellVals cellVals_length rfl h2W (id - 2).toNat hlt (some r)
  have habW:ab < W.heap.size:=Nat.lt_of_lt_of_le hab hu.size
  have hupd:Upd F w (set9 W cb ((id - 2).toNat * 9) (cellVals (some r))):=(hu.mono (fun k _ e=>by simpa [e] using a2)).trans' (u9.mono (fun k _ e=>by simpa [e] using hFcb))
  have k9:Keeps (set9 W cb ((id - 2).toNat * 9) (cellVals (some r))) (((set9 W cb ((id - 2).toNat * 9) (cellVals (some r))).alloc O).drew):=((Keeps.refl _).alloc O).drew
  have hfW:W.ownsRow 0 23 1 (.slice (some ⟨fb,0,none⟩) (gs.length + 1) fcap) (gs.length + 1) ((gs ++ [id]).map (Value.int .u32)):=hu.owns (fun k hk e=>hfab (by simp [Value.ownBlock] at hk;omega)) h3
  have hcfb:fb ≠ cb:=by
   obtain ⟨cur,hcur⟩:=owns_type h2 (k:=cb) rfl
   exact ne_of_type hfcur hcur (by decide)
  have hf9:=u9.owns (fun k hk e=>hcfb (by simp [Value.ownBlock] at hk;omega)) hfW
  refine ⟨by simp [putId],(hupd.alloc O).drew,⟨⟨.slice (some ⟨cb,0,none⟩) cs.length cap,.slice (some ⟨fb,0,none⟩) gs.length fcap,?_,?_,?_,?_,?_⟩,?_,?_,?_,?_,a6,?_,?_⟩⟩
  ·exact k9.heap ((u9.block ab habW (fun e=>hcab e.symm)).trans hW)
  ·have:=k9.owns h9
   simpa [putCs] using this
  ·have q:=k9.owns hf9
   refine ⟨by simp,?_⟩
   rcases q.2 with ⟨q2,_⟩ | ⟨fg,fcap',fcur',q2,q3,q4,q5,q6,q7,q8⟩
   ·simp at q2
   ·simp at q2
    obtain ⟨rfl,rfl⟩:=q2
    refine .inr ⟨fb,fcap,fcur',by simp,q3,q4,by simp;omega,q6,q7,?_⟩
    have:=congrArg (List.take gs.length) q8
    rw [List.take_take] at this
    simpa [Nat.min_eq_left] using this
  ·intro k hk
   exact .inl (h4 k hk)
  ·intro k hk
   exact .inl (h5 k (by simpa [Value.ownBlock] using hk))
  ·exact .inl a2
  ·simp [putCs];omega
  ·simp [putCs];omega
  ·omega
  ·intro x hx
   simp at hx
   have:=a7 x (by simp [hx])
   simpa [putCs] using this
  ·intro x hx
   simp [putCs] at hx
   rcases List.mem_or_eq_of_mem_set hx with hx | hx
   ·exact a8 x hx
   ·simp at hx
    rw [hx]
    exact hr

end Go.Proofs.YtpgcbmbnognieaaGreat
