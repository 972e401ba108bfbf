/-
  Walks of package index.
-/
import Derived.Test.YtpgcbmbnognieaaGreatPFindA
import Derived.Deep.LoopGhost
namespace Go.Proofs.YtpgcbmbnognieaaGreat
set_option maxRecDepth 1000000
set_option maxHeartbeats 8000000
set_option linter.unusedSimpArgs false
set_option linter.unusedVariables false
open Go.RowKit

def homeX (r:Rec):Int:=
 bits BinOp.xor IntKind.u64 (IntKind.u64.wrap (hashF r*11400714819323198485)) (IntKind.u64.wrap (hashF r*11400714819323198485) / 4294967296)

def homeN (r:Rec)(len:Nat):Nat:=(homeX r).toNat%len

theorem homeX_range (r:Rec):0≤homeX r∧homeX r<18446744073709551616:=by
 unfold homeX bits
 simp only [IntKind.wrap_u64]
 omega

theorem home_and (r:Rec)(p len:Nat)(hp:len=2 ^ p)(h22:len≤4194304):bits BinOp.and IntKind.u64 (homeX r) ((len:Int)-1)=(homeN r len:Int):=by
 obtain⟨h0,h1⟩:=homeX_range r
 have hp22:p≤22:=by
  rcases Nat.lt_or_ge 22 p with h|h
  ·have:=Nat.pow_lt_pow_right (a:=2) (by decide) h
   omega
  ·exact h
 have h:=bits_mask .u64 64 (by decide) (fun n h0 h1=>by rw [IntKind.wrap_u64];omega) p (by omega) (homeX r) h0 (by omega)
 have e:(len:Int)=2 ^ p:=by rw [hp];simp
 rw [e,h,homeN,hp]
 rw [Int.natCast_emod,Int.toNat_of_nonneg h0]
 simp

theorem next_and (i p len:Nat)(hp:len=2 ^ p)(h22:len≤4194304)(hi:i<len):bits BinOp.and IntKind.i64 ((i:Int)+1) ((len:Int)-1)=(((i+1)%len:Nat):Int):=by
 have hp22:p≤22:=by
  rcases Nat.lt_or_ge 22 p with h|h
  ·have:=Nat.pow_lt_pow_right (a:=2) (by decide) h
   omega
  ·exact h
 have h:=bits_mask .i64 63 (by decide) (fun n h0 h1=>by rw [IntKind.wrap_i64];omega) p (by omega) ((i:Int)+1) (by omega) (by omega)
 have e:(len:Int)=2 ^ p:=by rw [hp];simp
 rw [e,h,hp]
 simp

theorem method_hash (a b c d e f g : Value) (w : World) : (method 475 206 (.agg #[a, b, c, d, e, f, g]) "Hash").run Tryz.prog w = .ok (317, .agg #[a, b, c, d, e, f, g]) w := by kernel_rfl

theorem home_calls (ib tb len cap p:Nat)(r:Rec)(hr:r.ok)(w:World)(h0:w.cell? ⟨ib,0,none⟩=some (.slice (some ⟨tb,0,none⟩) len cap))(h8:8≤len)(h22:len≤4194304)(hp:len=2 ^ p) :
  Calls Tryz.prog 237 #[.pointer (some ⟨ib,0,none⟩),.agg #[.int .u8 r.form,.int .u8 r.top,.int .u8 r.bot,.int .u8 r.lo.tag,.int .u32 r.lo.to,.int .u8 r.hi.tag,.int .u32 r.hi.to]] w fun e w'=>
   e=.returned (.int .i64 (homeN r len:Int))∧Keeps w w':=by
 have hib:ib<w.heap.size:=lt_of_cell h0
 have hh:=home_and r p len hp h22
 have hn:homeN r len<len:=Nat.mod_lt _ (by omega)
 unfold homeX at hh
 have hm:=method_hash
 clear hp
 go_enter Tryz.func237,Tryz.ntmps237
 go_wp2_with (first|(go_at_call 317;refine(hash_calls _ hr _).mono ?_;rintro e w1 ⟨rfl,hb⟩;have hk:Keeps w w1:=(by(exact kp));obtain⟨hc,hf⟩:=hb.cells;obtain⟨hcl,hfl⟩:=hk.cells;have hsz:=hb.size;(try simp only [World.size_alloc,World.size_drewN,World.size_drew,World.size_setCell] at hsz);have hsl:=hk.size;have hz0:w.heap.size<w1.heap.size:=(by omega))|fail)
 go_ret
 exact⟨rfl,by(exact kp)⟩

theorem next_calls (ib tb len cap i p:Nat)(w:World)(h0:w.cell? ⟨ib,0,none⟩=some (.slice (some ⟨tb,0,none⟩) len cap))(h8:8≤len)(h22:len≤4194304)(hi:i<len)(hp:len=2 ^ p) :
  Calls Tryz.prog 238 #[.pointer (some ⟨ib,0,none⟩),.int .i64 i] w fun e w'=>
   e=.returned (.int .i64 (((i+1)%len:Nat):Int))∧w=w':=by
 have hh:=next_and i p len hp h22 hi
 clear hp
 go_enter Tryz.func238,Tryz.ntmps238
 go_wp2
 go_ret
 exact⟨rfl,rfl⟩

theorem find_calls (ib tb len cap p D:Nat)(r:Rec)(hr:r.ok)(ts:List (Option (Rec×Int)))(w:World)(h0:w.cell? ⟨ib,0,none⟩=some (.slice (some ⟨tb,0,none⟩) len cap))(h8:8≤len)(h22:len≤4194304)(hp:len=2 ^ p)
  (hv:∀ i c,ts[i]?=some c→∀ j,j<9→w.cell? ⟨tb,i*9+j,none⟩=(slotVals c)[j]?) (hts:ts.length=len)
  (hD:D<len) (hgo:∀ d,d<D→∃ r' id,ts[(homeN r len+d)%len]?=some (some (r',id))∧r'≠r)
  (hstop:ts[(homeN r len+D)%len]?=some none∨∃ id,ts[(homeN r len+D)%len]?=some (some (r,id))) :
  Calls Tryz.prog 190 #[.pointer (some ⟨ib,0,none⟩),.agg #[.int .u8 r.form,.int .u8 r.top,.int .u8 r.bot,.int .u8 r.lo.tag,.int .u32 r.lo.to,.int .u8 r.hi.tag,.int .u32 r.hi.to]] w fun e w'=>
   e=.returned (.int .i64 (((homeN r len+D)%len:Nat):Int))∧Keeps w w':=by
 have hib:ib<w.heap.size:=lt_of_cell h0
 have hp':=Lib.hid hp
 have hts':=Lib.hid hts
 clear hp hts
 have HV:=Lib.hid hv
 have HG:=Lib.hid hgo
 have HS:=Lib.hid hstop
 clear hv hgo hstop
 go_enter Tryz.func190,Tryz.ntmps190
 go_wp2_with (first|(go_at_call 237;refine(home_calls ib tb len cap p r hr _ (by simp [go_sem,h0,hib]) h8 h22 hp'.out).mono ?_;rintro e w1 ⟨rfl,hb⟩;have hk:Keeps w w1:=(by(exact kp));obtain⟨hc,hf⟩:=hb.cells;obtain⟨hcl,hfl⟩:=hk.cells;have hsz:=hb.size;(try simp only [World.size_alloc,World.size_drewN,World.size_drew,World.size_setCell] at hsz);have hsl:=hk.size;have hz0:w.heap.size<w1.heap.size:=(by omega))|fail)
 have kb:Keeps (w.alloc (.cells #[.int .u8 r.form,.int .u8 r.top,.int .u8 r.bot,.int .u8 r.lo.tag,.int .u32 r.lo.to,.int .u8 r.hi.tag,.int .u32 r.hi.to] 206)) w1:=hb
 have hbox:=box7 kb
 have i0:=hk.cell h0
 clear hc hf hcl hfl hsz hsl hz0
 have HB:=Lib.hid hbox
 have HI:=Lib.hid i0
 clear hbox i0 h0
 go_loopg [5] D (fun gk i wr=>∃ d k:Nat,d+gk=D∧Hid (k=(homeN r len+d)%len)∧k<len∧i=.int .i64 (k:Int)∧Keeps w1 wr)
 case atStart=>exact⟨0,homeN r len,by omega,(by show _=_;rw [Nat.add_zero,Nat.mod_eq_of_lt];unfold homeN;exact Nat.mod_lt _ (by omega)),(by unfold homeN;exact Nat.mod_lt _ (by omega)),rfl,Keeps.refl _⟩
 case round=>
  obtain⟨d,k,hd,hk',hkl,rfl,hkw⟩:=hrel
  obtain⟨q0,q1,q2,q3,q4,q5,q6⟩:=hkw.cell7 HB.out
  have i0:=hkw.cell HI.out
  have hki:(k:Int)<(len:Int):=by omega
  by_cases hg:gk=0
  ·subst hg
   rcases HS.out with hs|⟨id,hs⟩
   ·have hs8:=(hkw.cell (hk.cell ((HV.out _ _ hs 8 (by omega)).trans rfl)))
    have ed:d=D:=by omega
    have hs8':wr.cell? ⟨tb,k*9+8,none⟩=some (.bool false):=by rw [hk'.out,ed];exact hs8
    have ed:=Lib.hid ed
    clear hs8 hd
    go_wp2_with fail
    go_quiet (fail)
    go_wp2
    go_ret
    have ed2:k=(homeN r len+D)%len:=by rw [hk'.out,ed.out]
    refine⟨?_,by(exact kp)⟩
    rw [← ed2]
    rfl
   ·have hsv:=fun j hj=>hkw.cell (hk.cell ((HV.out _ _ hs j hj).trans (List.getElem?_eq_getElem (by rw [slotVals_length];exact hj))))
    have ed:d=D:=by omega
    rw [← ed,← hk'.out] at hsv
    have s0:=hsv 0 (by omega)
    have s1:=hsv 1 (by omega)
    have s2:=hsv 2 (by omega)
    have s3:=hsv 3 (by omega)
    have s4:=hsv 4 (by omega)
    have s5:=hsv 5 (by omega)
    have s6:=hsv 6 (by omega)
    have s8:=hsv 8 (by omega)
    simp [slotVals,recVals] at s0 s1 s2 s3 s4 s5 s6 s8
    have ed:=Lib.hid ed
    clear hsv hd
    go_wp2_with fail
    go_quiet (fail)
    go_wp2
    go_ret
    have ed2:k=(homeN r len+D)%len:=by rw [hk'.out,ed.out]
    refine⟨?_,by(exact kp)⟩
    rw [← ed2]
    rfl
  ·obtain⟨r',id,hs,hne⟩:=HG.out d (by omega)
   have hsv:=fun j hj=>hkw.cell (hk.cell ((HV.out _ _ hs j hj).trans (List.getElem?_eq_getElem (by rw [slotVals_length];exact hj))))
   rw [← hk'.out] at hsv
   have s0:=hsv 0 (by omega)
   have s1:=hsv 1 (by omega)
   have s2:=hsv 2 (by omega)
   have s3:=hsv 3 (by omega)
   have s4:=hsv 4 (by omega)
   have s5:=hsv 5 (by omega)
   have s6:=hsv 6 (by omega)
   have s8:=hsv 8 (by omega)
   simp [slotVals,recVals] at s0 s1 s2 s3 s4 s5 s6 s8
   have hq:∀ W,(binOp .neq 206 (.agg #[.int .u8 r'.form,.int .u8 r'.top,.int .u8 r'.bot,.int .u8 r'.lo.tag,.int .u32 r'.lo.to,.int .u8 r'.hi.tag,.int .u32 r'.hi.to]) (.agg #[.int .u8 r.form,.int .u8 r.top,.int .u8 r.bot,.int .u8 r.lo.tag,.int .u32 r.lo.to,.int .u8 r.hi.tag,.int .u32 r.hi.to])).run Tryz.prog W=.ok (.bool true) W:=fun W=>by rw [run_neq_key];simp [hne]
   have hd':=Lib.hid hd
   have hg':=Lib.hid hg
   clear hsv hs hne hd hg
   go_wp2_with fail
   go_quiet (fail)
   go_wp2_with (first|(go_at_call 238;refine(next_calls ib tb len cap k p _ (by simpa using i0) h8 h22 hkl hp'.out).mono ?_;rintro e w2 ⟨rfl,rfl⟩)|fail)
   go_roundg (gk-1)
   case rel=>exact⟨d+1,(k+1)%len,by have:=hd'.out;have:=hg'.out;omega,(by show _=_;rw [hk'.out];simp [Nat.add_assoc,Nat.mod_add_mod]),Nat.mod_lt _ (by omega),rfl,by(exact kp)⟩
   case measure=>have:=hg'.out;omega

structure IndexRep (F:Nat→Prop)(w:World)(ib:Nat)(ts:Tab)(n:Int):Prop where
 lies:∃ tb cap,w.heap[ib]?=some (.cells #[.slice (some ⟨tb,0,none⟩) ts.length cap,.int .i64 n] 265 (0,0)) ∧
  w.ownsRow 0 267 9 (.slice (some ⟨tb,0,none⟩) ts.length cap) ts.length (ts.flatMap slotVals)∧F tb
 own:F ib
 pow:∃ p,ts.length=2 ^ p
 least:8≤ts.length
 most:ts.length≤4194304
 half:2*occ ts≤ts.length
 ok:TabOk homeN ts
 fit:∀ r id,Tab.has ts r id→r.ok∧0≤id∧id≤4294967295

theorem iget_low (ib tb len cap k:Nat)(r x:Rec)(id:Int)(b:Bool)(w:World)(h0:w.cell? ⟨ib,0,none⟩=some (.slice (some ⟨tb,0,none⟩) len cap))(h22:len≤4194304)(hk:k<len)
  (g0:w.cell? ⟨tb,k*9,none⟩=some (.int .u8 x.form)) (g1:w.cell? ⟨tb,k*9+1,none⟩=some (.int .u8 x.top)) (g2:w.cell? ⟨tb,k*9+2,none⟩=some (.int .u8 x.bot))
  (g3:w.cell? ⟨tb,k*9+3,none⟩=some (.int .u8 x.lo.tag)) (g4:w.cell? ⟨tb,k*9+4,none⟩=some (.int .u32 x.lo.to)) (g5:w.cell? ⟨tb,k*9+5,none⟩=some (.int .u8 x.hi.tag))
  (g6:w.cell? ⟨tb,k*9+6,none⟩=some (.int .u32 x.hi.to)) (g7:w.cell? ⟨tb,k*9+7,none⟩=some (.int .u32 id)) (g8:w.cell? ⟨tb,k*9+8,none⟩=some (.bool b))
  (hfind:∀ W,Keeps w W→Calls Tryz.prog 190 #[.pointer (some ⟨ib,0,none⟩),.agg #[.int .u8 r.form,.int .u8 r.top,.int .u8 r.bot,.int .u8 r.lo.tag,.int .u32 r.lo.to,.int .u8 r.hi.tag,.int .u32 r.hi.to]] W fun e w'=>
    e=.returned (.int .i64 (k:Int))∧Keeps W w') :
  Calls Tryz.prog 128 #[.pointer (some ⟨ib,0,none⟩),.agg #[.int .u8 r.form,.int .u8 r.top,.int .u8 r.bot,.int .u8 r.lo.tag,.int .u32 r.lo.to,.int .u8 r.hi.tag,.int .u32 r.hi.to]] w fun e w'=>
   e=.returned (.tuple #[.int .u32 (if b then id else 0),.bool b])∧Keeps w w':=by
 have hib:ib<w.heap.size:=lt_of_cell h0
 have htb:tb<w.heap.size:=lt_of_cell g0
 have hki:(k:Int)<(len:Int):=by omega
 have hn1:w.heap.size+1≠ib:=by omega
 have hn2:w.heap.size+1≠tb:=by omega
 have H:=Lib.hid hfind
 clear hfind
 go_enter Tryz.func128,Tryz.ntmps128
 go_wp2
 go_region_held3 (fun w'=>w'.cell? ⟨ib,0,none⟩=some (.slice (some ⟨tb,0,none⟩) len cap)∧(w'.cell? ⟨w.heap.size,0,none⟩=some (.int .u8 r.form)∧w'.cell? ⟨w.heap.size,1,none⟩=some (.int .u8 r.top)∧w'.cell? ⟨w.heap.size,2,none⟩=some (.int .u8 r.bot)∧w'.cell? ⟨w.heap.size,3,none⟩=some (.int .u8 r.lo.tag)∧w'.cell? ⟨w.heap.size,4,none⟩=some (.int .u32 r.lo.to)∧w'.cell? ⟨w.heap.size,5,none⟩=some (.int .u8 r.hi.tag)∧w'.cell? ⟨w.heap.size,6,none⟩=some (.int .u32 r.hi.to))∧(w'.cell? ⟨tb,k*9,none⟩=some (.int .u8 x.form)∧w'.cell? ⟨tb,k*9+1,none⟩=some (.int .u8 x.top)∧w'.cell? ⟨tb,k*9+2,none⟩=some (.int .u8 x.bot)∧w'.cell? ⟨tb,k*9+3,none⟩=some (.int .u8 x.lo.tag)∧w'.cell? ⟨tb,k*9+4,none⟩=some (.int .u32 x.lo.to)∧w'.cell? ⟨tb,k*9+5,none⟩=some (.int .u8 x.hi.tag)∧w'.cell? ⟨tb,k*9+6,none⟩=some (.int .u32 x.hi.to)∧w'.cell? ⟨tb,k*9+7,none⟩=some (.int .u32 id)∧w'.cell? ⟨tb,k*9+8,none⟩=some (.bool b))) (go_keep) ((first|(go_at_call 190;refine(H.out _ (by(exact kp))).mono ?_;rintro e w1 ⟨rfl,hb⟩;obtain⟨y0,y1,y2,y3,y4,y5,y6⟩:=box7 (w:=w) (w1:=w1) (show Keeps (w.alloc (.cells #[.int .u8 r.form,.int .u8 r.top,.int .u8 r.bot,.int .u8 r.lo.tag,.int .u32 r.lo.to,.int .u8 r.hi.tag,.int .u32 r.hi.to] 206)) w1 by(exact kp));have hk:Keeps w w1:=(by(exact kp));obtain⟨hc,hf⟩:=hb.cells;obtain⟨hcl,hfl⟩:=hk.cells;have hsz:=hb.size;(try simp only [World.size_alloc,World.size_drewN,World.size_drew,World.size_setCell] at hsz);have hsl:=hk.size;have hz0:w.heap.size<w1.heap.size:=(by omega);have hn3:w1.heap.size≠ib:=(by omega);have hn4:w1.heap.size≠tb:=(by omega);have hn5:w1.heap.size≠w.heap.size:=(by omega))))
 all_goals cases b
 all_goals(go_wp2;go_ret2;exact⟨rfl,by(exact kp)⟩)

theorem IndexRep.open {F:Nat→Prop}{w:World}{ib:Nat}{ts:Tab}{n:Int}(h:IndexRep F w ib ts n) :
  ∃ tb cap,w.cell? ⟨ib,0,none⟩=some (.slice (some ⟨tb,0,none⟩) ts.length cap)∧w.cell? ⟨ib,1,none⟩=some (.int .i64 n)∧F tb∧ib≠tb ∧
   (∀ i c,ts[i]?=some c→∀ j,j<9→w.cell? ⟨tb,i*9+j,none⟩=(slotVals c)[j]?)∧(∀ j,w.frozen? ⟨tb,j,none⟩=false)∧(∀ j,w.frozen? ⟨ib,j,none⟩=false):=by
 obtain⟨⟨tb,cap,h1,h2,h3⟩,_⟩:=h
 obtain⟨cur,hcur⟩:=owns_type h2 (k:=tb) rfl
 refine⟨tb,cap,by rw [cell_of_row w ib 0 _ _ _ h1];rfl,by rw [cell_of_row w ib 1 _ _ _ h1];rfl,h3,(ne_of_type hcur h1 (by decide)).symm,fun i c hc j hj=>?_,fun j=>h2.frozenAt j,fun j=>frozen_of_row w ib j _ _ h1⟩
 have hi:=(List.getElem?_eq_some_iff.1 hc).1
 rw [h2.cellAt (i*9+j) (by omega)]
 exact flat_get slotVals 9 slotVals_length ts i j c hc hj

theorem IndexRep.keep {F G:Nat→Prop}{w W:World}{ib:Nat}{ts:Tab}{n:Int}(h:IndexRep F w ib ts n)(hu:Upd G w W)(hd:∀ k,F k→¬G k):IndexRep F W ib ts n:=by
 obtain⟨⟨tb,cap,h1,h2,h3⟩,a1,a2,a3,a4,a5,a6,a7⟩:=h
 exact⟨⟨tb,cap,(hu.block ib (lt_of_heap h1) (hd _ a1)).trans h1,hu.owns (fun k hk=>by simp [Value.ownBlock] at hk;subst hk;exact hd _ h3) h2,h3⟩,a1,a2,a3,a4,a5,a6,a7⟩

theorem IndexRep.keeps {F:Nat→Prop}{w W:World}{ib:Nat}{ts:Tab}{n:Int}(h:IndexRep F w ib ts n)(hu:Keeps w W):IndexRep F W ib ts n:=
 h.keep (hu.upd (fun _=>False)) (fun _ _ h=>h)

theorem IndexRep.room {F:Nat→Prop}{w:World}{ib:Nat}{ts:Tab}{n:Int}(h:IndexRep F w ib ts n):∃ e:Nat,ts[e]?=some none:=
 occ_lt (by have:=h.half;have:=h.least;omega)

theorem index_find {F:Nat→Prop}{w:World}{ib:Nat}{ts:Tab}{n:Int}(h:IndexRep F w ib ts n)(r:Rec)(hr:r.ok)(D:Nat)(hD:Ends homeN ts r D) :
  Calls Tryz.prog 190 #[.pointer (some ⟨ib,0,none⟩),.agg #[.int .u8 r.form,.int .u8 r.top,.int .u8 r.bot,.int .u8 r.lo.tag,.int .u32 r.lo.to,.int .u8 r.hi.tag,.int .u32 r.hi.to]] w fun e w'=>e=.returned (.int .i64 (((homeN r ts.length+D)%ts.length:Nat):Int))∧Keeps w w':=by
 obtain⟨p,hp⟩:=h.pow
 obtain⟨tb,cap,c0,c1,_,_,hv,_⟩:=h.open
 exact find_calls ib tb ts.length cap p D r hr ts w c0 h.least h.most hp hv rfl hD.lt hD.go hD.stop

theorem iget_mid {F:Nat→Prop}{w:World}{ib:Nat}{ts:Tab}{n:Int}(h:IndexRep F w ib ts n)(r x:Rec)(k:Nat)(c:Option (Rec×Int))(id:Int)(b:Bool)(hc:ts[k]?=some c)(hx:slotVals c=recVals x++[.int .u32 id,.bool b])
  (hfind:∀ W,Keeps w W→Calls Tryz.prog 190 #[.pointer (some ⟨ib,0,none⟩),.agg #[.int .u8 r.form,.int .u8 r.top,.int .u8 r.bot,.int .u8 r.lo.tag,.int .u32 r.lo.to,.int .u8 r.hi.tag,.int .u32 r.hi.to]] W fun e w'=>e=.returned (.int .i64 (k:Int))∧Keeps W w') :
  Calls Tryz.prog 128 #[.pointer (some ⟨ib,0,none⟩),.agg #[.int .u8 r.form,.int .u8 r.top,.int .u8 r.bot,.int .u8 r.lo.tag,.int .u32 r.lo.to,.int .u8 r.hi.tag,.int .u32 r.hi.to]] w fun e w'=>e=.returned (.tuple #[.int .u32 (if b then id else 0),.bool b])∧Keeps w w':=by
 obtain⟨tb,cap,c0,c1,_,hne,hv,hf,_⟩:=h.open
 have hk:=(List.getElem?_eq_some_iff.1 hc).1
 have hv:=hv k c hc
 rw [hx] at hv
 have e0:w.cell? ⟨tb,k*9,none⟩=some (.int .u8 x.form):=hv 0 (by omega)
 have e1:w.cell? ⟨tb,k*9+1,none⟩=some (.int .u8 x.top):=hv 1 (by omega)
 have e2:w.cell? ⟨tb,k*9+2,none⟩=some (.int .u8 x.bot):=hv 2 (by omega)
 have e3:w.cell? ⟨tb,k*9+3,none⟩=some (.int .u8 x.lo.tag):=hv 3 (by omega)
 have e4:w.cell? ⟨tb,k*9+4,none⟩=some (.int .u32 x.lo.to):=hv 4 (by omega)
 have e5:w.cell? ⟨tb,k*9+5,none⟩=some (.int .u8 x.hi.tag):=hv 5 (by omega)
 have e6:w.cell? ⟨tb,k*9+6,none⟩=some (.int .u32 x.hi.to):=hv 6 (by omega)
 have e7:w.cell? ⟨tb,k*9+7,none⟩=some (.int .u32 id):=hv 7 (by omega)
 have e8:w.cell? ⟨tb,k*9+8,none⟩=some (.bool b):=hv 8 (by omega)
 exact iget_low ib tb ts.length cap k r x id b w c0 h.most hk e0 e1 e2 e3 e4 e5 e6 e7 e8 hfind

theorem index_get {F:Nat→Prop}{w:World}{ib:Nat}{ts:Tab}{n:Int}(h:IndexRep F w ib ts n)(r:Rec)(hr:r.ok)(o:Option Int)(ho:∀ id,Tab.has ts r id↔o=some id) :
  Calls Tryz.prog 128 #[.pointer (some ⟨ib,0,none⟩),.agg #[.int .u8 r.form,.int .u8 r.top,.int .u8 r.bot,.int .u8 r.lo.tag,.int .u32 r.lo.to,.int .u8 r.hi.tag,.int .u32 r.hi.to]] w fun e w'=>e=.returned (.tuple #[.int .u32 (o.getD 0),.bool o.isSome])∧Keeps w w':=by
 obtain⟨D,hD⟩:=ends_of (H:=homeN) r h.room
 have hfind:∀ W,Keeps w W→Calls Tryz.prog 190 #[.pointer (some ⟨ib,0,none⟩),.agg #[.int .u8 r.form,.int .u8 r.top,.int .u8 r.bot,.int .u8 r.lo.tag,.int .u32 r.lo.to,.int .u8 r.hi.tag,.int .u32 r.hi.to]] W fun e w'=>e=.returned (.int .i64 (((homeN r ts.length+D)%ts.length:Nat):Int))∧Keeps W w':=fun W hW=>index_find (h.keeps hW) r hr D hD
 rcases hD.stop with hs|⟨id,hs⟩
 ·have hn:o=none:=by
   cases ho':o with
   | none=>rfl
   | some id=>
    have:=hD.found h.ok ((ho id).2 ho')
    rw [hs] at this
    simp at this
  subst hn
  exact(iget_mid h r Rec.zero _ none 0 false hs rfl hfind).mono fun e w' he=>⟨he.1,he.2⟩
 ·have hn:o=some id:=(ho id).1 ⟨_,hs⟩
  subst hn
  exact(iget_mid h r r _ (some (r,id)) id true hs rfl hfind).mono fun e w' he=>⟨he.1,he.2⟩

theorem info_slot:(Tryz.prog.info? 267).map (fun i=>(i.zero,i.size,i.bytes))=some (some (.agg #[.int .u8 0,.int .u8 0,.int .u8 0,.int .u8 0,.int .u32 0,.int .u8 0,.int .u32 0,.int .u32 0,.bool false]),9,28):=by kernel_rfl

theorem made_slots (n:Nat):(madeCells (Value.agg #[.int .u8 0,.int .u8 0,.int .u8 0,.int .u8 0,.int .u32 0,.int .u8 0,.int .u32 0,.int .u32 0,.bool false]).cells (n*9)).toList=(List.replicate n (none:Option (Rec×Int))).flatMap slotVals:=by
 apply List.ext_getElem?
 intro j
 by_cases hj:j<n*9
 ·have hq:j / 9<n:=by omega
  have e0:(List.replicate n (none:Option (Rec×Int)))[j / 9]?=some none:=by simp [hq]
  have:=flat_get slotVals 9 slotVals_length (List.replicate n none) (j / 9) (j%9) none e0 (by omega)
  rw [show j / 9*9+j%9=j by omega] at this
  rw [this]
  have h9:j%9<9:=by omega
  simp only [madeCells,Array.getElem?_toList,Array.getElem?_map,Value.cells]
  rw [Array.getElem?_eq_getElem (by simpa using hj)]
  simp only [Array.getElem_range,Option.map_some]
  generalize j%9=m at h9
  match m,h9 with
  | 0,_=>rfl
  | 1,_=>rfl
  | 2,_=>rfl
  | 3,_=>rfl
  | 4,_=>rfl
  | 5,_=>rfl
  | 6,_=>rfl
  | 7,_=>rfl
  | 8,_=>rfl
 ·rw [List.getElem?_eq_none (by simp [madeCells];omega),List.getElem?_eq_none (by rw [flat_length slotVals 9 slotVals_length];simp;omega)]

structure GrowInv (w:World)(ib:Nat)(ts:Tab)(n:Int)(i:Nat)(nt:Tab)(wr:World):Prop where
 len:nt.length=2*ts.length
 ok:TabOk homeN nt
 has:∀ r id,Tab.has nt r id↔∃ j,j<i∧Tab.at ts j r id
 cnt:occ nt=occ (ts.take i)
 heap:wr.heap[ib]?=some (.cells #[.slice (some ⟨w.heap.size,0,none⟩) (2*ts.length) (2*ts.length),.int .i64 n] 265 (0,0))
 row:wr.ownsRow 0 267 9 (.slice (some ⟨w.heap.size,0,none⟩) (2*ts.length) (2*ts.length)) (2*ts.length) (nt.flatMap slotVals)
 upd:Upd (fun k=>k=ib) w wr

theorem owns_base {w:World}{b b':Nat}{e:TypeId}{size:Nat}{v:Value}{n:Nat}{xs:List Value}(h:w.ownsRow b e size v n xs)(hb:b'≤b):w.ownsRow b' e size v n xs:=by
 refine⟨h.1,?_⟩
 rcases h.2 with h2|⟨g,cap,cur,h1,h2,h3⟩
 ·exact .inl h2
 ·exact .inr ⟨g,cap,cur,h1,by omega,h3⟩

theorem GrowInv.start {w w1:World}{ib:Nat}{ts:Tab}{n:Int}{v:Value}(hib:w.heap[ib]?=some (.cells #[v,.int .i64 n] 265 (0,0)))
  (hown:w1.ownsRow w.heap.size 267 9 (.slice (some ⟨w.heap.size,0,none⟩) (2*ts.length) (2*ts.length)) (2*ts.length) (madeCells (Value.agg #[.int .u8 0,.int .u8 0,.int .u8 0,.int .u8 0,.int .u32 0,.int .u8 0,.int .u32 0,.int .u32 0,.bool false]).cells (2*ts.length*9)).toList)
  (hg:w.grownBy w1 none) :
  GrowInv w ib ts n 0 (List.replicate (2*ts.length) none) (w1.setCell ⟨ib,0,none⟩ (.slice (some ⟨w.heap.size,0,none⟩) (2*ts.length) (2*ts.length))):=by
 obtain⟨h1,h2,h3⟩:=TabOk.empty homeN (2*ts.length)
 have hlt:=lt_of_heap hib
 have hh:w1.heap[ib]?=some (.cells #[v,.int .i64 n] 265 (0,0)):=(hg.block ib hlt (by simp)).trans hib
 refine⟨by simp,h1,fun r id=>⟨fun h=>(h3 r id h).elim,fun⟨j,hj,_⟩=>by omega⟩,by rw [h2];simp [occ],?_,?_,?_⟩
 ·exact heap_setCell_same w1 ib 0 _ _ _ hh
 ·rw [made_slots] at hown
  refine Upd.owns (F:=fun k=>k=ib) (Upd.setCell (F:=fun k=>k=ib) (p:=⟨ib,0,none⟩) (Upd.refl _ _) (Or.inl rfl) _) (fun k hk=>?_) (owns_base hown (Nat.zero_le _))
  simp [Value.ownBlock] at hk
  omega
 ·exact Upd.setCell (F:=fun k=>k=ib) (p:=⟨ib,0,none⟩) (Upd.grown (Upd.refl _ _) hg (fun k hk=>by simp at hk)) (Or.inl rfl) _

theorem GrowInv.skip {w wr W:World}{ib:Nat}{ts nt:Tab}{n:Int}{i:Nat}(h:GrowInv w ib ts n i nt wr)(hk:Keeps wr W)(hi:ts[i]?=some none):GrowInv w ib ts n (i+1) nt W:=by
 obtain⟨a1,a2,a3,a4,a5,a6,a7⟩:=h
 refine⟨a1,a2,fun r id=>(a3 r id).trans ⟨fun⟨j,hj,h⟩=>⟨j,by omega,h⟩,fun⟨j,hj,h⟩=>⟨j,?_,h⟩⟩,?_,hk.heap a5,hk.owns a6,a7.trans' (hk.upd _)⟩
 ·rcases Nat.lt_or_ge j i with hlt|hge
  ·exact hlt
  ·have:j=i:=by omega
   subst this
   unfold Tab.at at h
   rw [hi] at h
   simp at h
 ·rw [a4,List.take_add_one,hi]
  simp [occ,List.countP_append]

theorem GrowInv.step {w wr W:World}{ib:Nat}{ts nt:Tab}{n:Int}{i:Nat}(h:GrowInv w ib ts n i nt wr)(hk:Keeps wr W){r:Rec}{id:Int}(hi:ts[i]?=some (some (r,id))){D:Nat}
  (hD:Ends homeN nt r D) (hts:TabOk homeN ts) (k:Nat) (hkD:k=(homeN r nt.length+D)%nt.length) :
  GrowInv w ib ts n (i+1) (nt.set k (some (r,id))) (set9 W w.heap.size (k*9) (slotVals (some (r,id)))):=by
 obtain⟨a1,a2,a3,a4,a5,a6,a7⟩:=h
 have hlt:k<nt.length:=by rw [hkD];exact Nat.mod_lt _ (by have:=hD.lt;omega)
 have hnone:nt[k]?=some none:=by
  rcases hD.stop with hs|⟨id',hs⟩
  ·rw [hkD];exact hs
  ·obtain⟨j,hj,hat⟩:=(a3 r id').1 ⟨_,hs⟩
   have:=hts.uniq j i r id' id hat hi
   omega
 obtain⟨b1,b2,b3⟩:=a2.put hD (hkD ▸ hnone) id
 rw [← hkD] at b1 b2 b3
 have hbl:=lt_of_heap a5
 have hib:ib≠w.heap.size:=by
  obtain⟨cur,hcur⟩:=owns_type a6 (k:=w.heap.size) rfl
  exact ne_of_type a5 hcur (by decide)
 have u9:=set9_upd w.heap.size (slotVals (some (r,id))) (k*9) W
 refine⟨by rw [List.length_set,a1],b1,fun r' id'=>(b3 r' id').trans ⟨?_,?_⟩,?_,?_,?_,?_⟩
 ·rintro(⟨rfl,rfl⟩|hh)
  ·exact⟨i,by omega,hi⟩
  ·obtain⟨j,hj,hat⟩:=(a3 r' id').1 hh
   exact⟨j,by omega,hat⟩
 ·rintro⟨j,hj,hat⟩
  rcases Nat.lt_or_ge j i with hlt|hge
  ·exact .inr ((a3 r' id').2 ⟨j,hlt,hat⟩)
  ·have:j=i:=by omega
   subst this
   unfold Tab.at at hat
   rw [hi] at hat
   simp at hat
   exact .inl ⟨hat.1.symm,hat.2.symm⟩
 ·rw [b2,a4,List.take_add_one,hi]
  simp [occ,List.countP_append]
 ·exact(u9.block ib (Nat.lt_of_lt_of_le hbl hk.size) hib).trans (hk.heap a5)
 ·exact set9_owns slotVals slotVals_length a1 (hk.owns a6) k (by omega) (some (r,id))
 ·refine(a7.trans' (hk.upd _)).trans ((u9.mono (fun k' hk' e=>?_)))
  subst e
  have:=a7.size
  have:=hk.size
  exact .inr ⟨Nat.le_refl _,hk'⟩

theorem occ_take_le (ts:Tab)(i:Nat):occ (ts.take i)≤i∧occ (ts.take i)≤ts.length:=by
 have h1:occ (ts.take i)≤(ts.take i).length:=List.countP_le_length
 have h2:(ts.take i).length=min i ts.length:=List.length_take
 omega

theorem GrowInv.rep {w wr:World}{ib:Nat}{ts nt:Tab}{n:Int}{i:Nat}(h:GrowInv w ib ts n i nt wr){p:Nat}(hp:ts.length=2 ^ p)(h8:8≤ts.length)(h22:ts.length≤2097152)
  (hfit:∀ r id,Tab.has ts r id→r.ok∧0≤id∧id≤4294967295):IndexRep (fun _=>True) wr ib nt n:=by
 have hl:=h.len
 have hc:=h.cnt
 have ho:=occ_take_le ts i
 refine⟨⟨w.heap.size,2*ts.length,?_,?_,trivial⟩,trivial,⟨p+1,by rw [hl,hp,Nat.pow_succ];omega⟩,by omega,by omega,by omega,h.ok,fun r id hh=>?_⟩
 ·rw [hl];exact h.heap
 ·rw [hl];exact h.row
 ·obtain⟨j,_,hj⟩:=(h.has r id).1 hh
  exact hfit r id ⟨j,hj⟩

theorem GrowInv.room {w wr:World}{ib:Nat}{ts nt:Tab}{n:Int}{i:Nat}(h:GrowInv w ib ts n i nt wr)(h8:8≤ts.length):∃ e:Nat,nt[e]?=some none:=by
 have hl:=h.len
 have hc:=h.cnt
 have ho:=occ_take_le ts i
 exact occ_lt (by omega)

theorem GrowInv.place {w wr:World}{ib:Nat}{ts nt:Tab}{n:Int}{i:Nat}(h:GrowInv w ib ts n i nt wr)(hts:TabOk homeN ts){r:Rec}{id:Int}(hi:ts[i]?=some (some (r,id))){D:Nat}(hD:Ends homeN nt r D){k:Nat}(hk:k=(homeN r nt.length+D)%nt.length) :
  k<2*ts.length∧(∀ j,j<9→wr.cell? ⟨w.heap.size,k*9+j,none⟩=(slotVals none)[j]?)∧(∀ j,wr.frozen? ⟨w.heap.size,j,none⟩=false)∧w.heap.size<wr.heap.size∧w.heap.size≠ib:=by
 have hl:=h.len
 have hlt:k<nt.length:=by rw [hk];exact Nat.mod_lt _ (by have:=hD.lt;omega)
 have hnone:nt[k]?=some none:=by
  rcases hD.stop with hs|⟨id',hs⟩
  ·rw [hk];exact hs
  ·obtain⟨j,hj,hat⟩:=(h.has r id').1 ⟨_,hs⟩
   have:=hts.uniq j i r id' id hat hi
   omega
 obtain⟨cur,hcur⟩:=owns_type h.row (k:=w.heap.size) rfl
 exact⟨by omega,fun j hj=>(h.row.cellAt (k*9+j) (by omega)).trans (flat_get slotVals 9 slotVals_length nt k j none hnone hj),fun j=>h.row.frozenAt j,lt_of_heap hcur,ne_of_type hcur h.heap (by decide)⟩

theorem grow_low {F:Nat→Prop}{w:World}{ib:Nat}{ts:Tab}{n:Int}(tb cap p:Nat)(hib:w.heap[ib]?=some (.cells #[.slice (some ⟨tb,0,none⟩) ts.length cap,.int .i64 n] 265 (0,0)))
  (htb:w.ownsRow 0 267 9 (.slice (some ⟨tb,0,none⟩) ts.length cap) ts.length (ts.flatMap slotVals)) (hp:ts.length=2 ^ p) (h8:8≤ts.length) (h22:ts.length≤2097152)
  (hok:TabOk homeN ts) (hfit:∀ r id,Tab.has ts r id→r.ok∧0≤id∧id≤4294967295) :
  Calls Tryz.prog 194 #[.pointer (some ⟨ib,0,none⟩)] w fun e w'=>e=.returned (.tuple #[])∧∃ nt,GrowInv w ib ts n ts.length nt w':=by
 have c0:w.cell? ⟨ib,0,none⟩=some (.slice (some ⟨tb,0,none⟩) ts.length cap):=by rw [cell_of_row w ib 0 _ _ _ hib];rfl
 have f0:w.frozen? ⟨ib,0,none⟩=false:=frozen_of_row w ib 0 _ _ hib
 have hibl:=lt_of_heap hib
 obtain⟨i0,hi,hz0,hz1,hz2⟩:=info_parts info_slot
 have HI:=Lib.hid hib
 have HP:=Lib.hid hp
 clear hib hp
 go_enter Tryz.func194,Tryz.ntmps194
 go_wp2_with (at_make;refine wpList_make_full _ rfl (.tmp 12) (.tmp 12) 263 rfl w.heap.size 267 i0 _ 9 Tryz.underlying263 hi hz0 hz1 .i64 .i64 (2*(ts.length:Int)) (2*(ts.length:Int)) (2*ts.length) rfl rfl (by omega) (by omega) (by rw [hz2];omega) (by unfold maxLen;omega) (Nat.le_refl _) ?_;intro w1 hown1 hg1;have c0':=grown_cell (o:=0) hg1 (by simp) c0;have f0':=grown_frozen (o:=0) hg1 hibl (by simp) f0)
 have hst:=GrowInv.start (ts:=ts) (n:=n) HI.out hown1 hg1
 have HF:=Lib.hid hfit
 have HT:=Lib.hid htb
 have HK:=Lib.hid hok
 clear hown1 hg1 c0' f0' hfit htb c0 f0 hok
 go_loopg [18] ts.length (fun gk v wr=>∃ (i:Nat) (nt:Tab),i+gk=ts.length∧v=.int .i64 (i:Int)∧GrowInv w ib ts n i nt wr)
 case atStart=>exact⟨0,_,by omega,rfl,hst⟩
 case round=>
  obtain⟨i,nt,hig,rfl,hinv⟩:=hrel
  by_cases hg:gk=0
  ·subst hg
   have e:¬(i:Int)<(ts.length:Int):=by omega
   obtain rfl:i=ts.length:=by omega
   go_wp2
   go_end0
   exact⟨rfl,nt,hinv⟩
  ·have e:(i:Int)<(ts.length:Int):=by omega
   have hlt:i<ts.length:=by omega
   obtain⟨c,hc⟩:∃ c,ts[i]?=some c:=⟨_,List.getElem?_eq_getElem hlt⟩
   have htbl:=lt_of_heap (owns_type HT.out (k:=tb) rfl).choose_spec
   have htib:tb≠ib:=by
    obtain⟨cur,hcur⟩:=owns_type HT.out (k:=tb) rfl
    exact ne_of_type hcur HI.out (by decide)
   have hrow:=hinv.upd.owns (fun k hk=>by simp [Value.ownBlock] at hk;omega) HT.out
   have hv:=fun j (hj:j<9)=>(hrow.cellAt (i*9+j) (by omega)).trans (flat_get slotVals 9 slotVals_length ts i j c hc hj)
   cases c with
   | none=>
    have e0:wr.cell? ⟨tb,i*9,none⟩=some (.int .u8 0):=hv 0 (by omega)
    have e1:wr.cell? ⟨tb,i*9+1,none⟩=some (.int .u8 0):=hv 1 (by omega)
    have e2:wr.cell? ⟨tb,i*9+2,none⟩=some (.int .u8 0):=hv 2 (by omega)
    have e3:wr.cell? ⟨tb,i*9+3,none⟩=some (.int .u8 0):=hv 3 (by omega)
    have e4:wr.cell? ⟨tb,i*9+4,none⟩=some (.int .u32 0):=hv 4 (by omega)
    have e5:wr.cell? ⟨tb,i*9+5,none⟩=some (.int .u8 0):=hv 5 (by omega)
    have e6:wr.cell? ⟨tb,i*9+6,none⟩=some (.int .u32 0):=hv 6 (by omega)
    have e7:wr.cell? ⟨tb,i*9+7,none⟩=some (.int .u32 0):=hv 7 (by omega)
    have e8:wr.cell? ⟨tb,i*9+8,none⟩=some (.bool false):=hv 8 (by omega)
    have HC:=Lib.hid hc
    have HG:=Lib.hid hig
    clear hv hrow hc hig htib
    go_wp2
    go_roundg (gk-1)
    case rel=>exact⟨i+1,nt,by have:=HG.out;omega,by go_num,hinv.skip (by(exact kp)) HC.out⟩
    case measure=>omega
   | some c=>
    obtain⟨r,id⟩:=c
    have e0:wr.cell? ⟨tb,i*9,none⟩=some (.int .u8 r.form):=hv 0 (by omega)
    have e1:wr.cell? ⟨tb,i*9+1,none⟩=some (.int .u8 r.top):=hv 1 (by omega)
    have e2:wr.cell? ⟨tb,i*9+2,none⟩=some (.int .u8 r.bot):=hv 2 (by omega)
    have e3:wr.cell? ⟨tb,i*9+3,none⟩=some (.int .u8 r.lo.tag):=hv 3 (by omega)
    have e4:wr.cell? ⟨tb,i*9+4,none⟩=some (.int .u32 r.lo.to):=hv 4 (by omega)
    have e5:wr.cell? ⟨tb,i*9+5,none⟩=some (.int .u8 r.hi.tag):=hv 5 (by omega)
    have e6:wr.cell? ⟨tb,i*9+6,none⟩=some (.int .u32 r.hi.to):=hv 6 (by omega)
    have e7:wr.cell? ⟨tb,i*9+7,none⟩=some (.int .u32 id):=hv 7 (by omega)
    have e8:wr.cell? ⟨tb,i*9+8,none⟩=some (.bool true):=hv 8 (by omega)
    have HC:=Lib.hid hc
    have HG:=Lib.hid hig
    clear hv hrow hc hig htib
    have hrep:=hinv.rep HP.out h8 h22 HF.out
    have hr:r.ok:=(HF.out r id ⟨i,HC.out⟩).1
    obtain⟨D,hD⟩:=ends_of (H:=homeN) r (hinv.room h8)
    obtain⟨k,hkD⟩:∃ k:Nat,k=(homeN r nt.length+D)%nt.length:=⟨_,rfl⟩
    obtain⟨hkl,hv,hfz,hsz,hne⟩:=hinv.place HK.out HC.out hD hkD
    have hfind:∀ W,Keeps wr W→Calls Tryz.prog 190 #[.pointer (some ⟨ib,0,none⟩),.agg #[.int .u8 r.form,.int .u8 r.top,.int .u8 r.bot,.int .u8 r.lo.tag,.int .u32 r.lo.to,.int .u8 r.hi.tag,.int .u32 r.hi.to]] W fun e w'=>e=.returned (.int .i64 (k:Int))∧Keeps W w':=fun W hW=>by
     rw [hkD]
     exact index_find (hrep.keeps hW) r hr D hD
    have HD:=Lib.hid hD
    have HkD:=Lib.hid hkD
    have HV:=Lib.hid hv
    have H:=Lib.hid hfind
    have hki:(k:Int)<2*(ts.length:Int):=by omega
    have hwb:w.heap.size≠wr.heap.size:=by omega
    have c0:wr.cell? ⟨ib,0,none⟩=some (.slice (some ⟨w.heap.size,0,none⟩) (2*ts.length) (2*ts.length)):=by rw [cell_of_row wr ib 0 _ _ _ hinv.heap];rfl
    have hibr:ib<wr.heap.size:=lt_of_heap hinv.heap
    clear hD hkD hv hfind
    go_wp2_with fail
    go_region_held3 (fun w'=>w'.cell? ⟨ib,0,none⟩=some (.slice (some ⟨w.heap.size,0,none⟩) (2*ts.length) (2*ts.length))∧(w'.cell? ⟨wr.heap.size,0,none⟩=some (.int .u8 r.form)∧w'.cell? ⟨wr.heap.size,1,none⟩=some (.int .u8 r.top)∧w'.cell? ⟨wr.heap.size,2,none⟩=some (.int .u8 r.bot)∧w'.cell? ⟨wr.heap.size,3,none⟩=some (.int .u8 r.lo.tag)∧w'.cell? ⟨wr.heap.size,4,none⟩=some (.int .u32 r.lo.to)∧w'.cell? ⟨wr.heap.size,5,none⟩=some (.int .u8 r.hi.tag)∧w'.cell? ⟨wr.heap.size,6,none⟩=some (.int .u32 r.hi.to)∧w'.cell? ⟨wr.heap.size,7,none⟩=some (.int .u32 id)∧w'.cell? ⟨wr.heap.size,8,none⟩=some (.bool true))) (go_keep) ((first|(go_at_call 190;refine(H.out _ (by(exact kp))).mono ?_;rintro e w2 ⟨rfl,hb⟩;have hbx:Keeps (wr.alloc (.cells #[.int .u8 r.form,.int .u8 r.top,.int .u8 r.bot,.int .u8 r.lo.tag,.int .u32 r.lo.to,.int .u8 r.hi.tag,.int .u32 r.hi.to,.int .u32 id,.bool true] 267)) w2:=(by(exact kp));have hb0:Keeps wr w2:=(((Keeps.refl _).alloc _).trans hbx);have ci:=hb0.cell c0;have b0:w2.cell? ⟨wr.heap.size,0,none⟩=some (.int .u8 r.form):=hbx.cell (by simp);have b1:w2.cell? ⟨wr.heap.size,1,none⟩=some (.int .u8 r.top):=hbx.cell (by simp);have b2:w2.cell? ⟨wr.heap.size,2,none⟩=some (.int .u8 r.bot):=hbx.cell (by simp);have b3:w2.cell? ⟨wr.heap.size,3,none⟩=some (.int .u8 r.lo.tag):=hbx.cell (by simp);have b4:w2.cell? ⟨wr.heap.size,4,none⟩=some (.int .u32 r.lo.to):=hbx.cell (by simp);have b5:w2.cell? ⟨wr.heap.size,5,none⟩=some (.int .u8 r.hi.tag):=hbx.cell (by simp);have b6:w2.cell? ⟨wr.heap.size,6,none⟩=some (.int .u32 r.hi.to):=hbx.cell (by simp);have b7:w2.cell? ⟨wr.heap.size,7,none⟩=some (.int .u32 id):=hbx.cell (by simp);have b8:w2.cell? ⟨wr.heap.size,8,none⟩=some (.bool true):=hbx.cell (by simp);have q0:w2.cell? ⟨w.heap.size,k*9,none⟩=some (.int .u8 0):=hb0.cell (HV.out 0 (by omega));have q1:w2.cell? ⟨w.heap.size,k*9+1,none⟩=some (.int .u8 0):=hb0.cell (HV.out 1 (by omega));have q2:w2.cell? ⟨w.heap.size,k*9+2,none⟩=some (.int .u8 0):=hb0.cell (HV.out 2 (by omega));have q3:w2.cell? ⟨w.heap.size,k*9+3,none⟩=some (.int .u8 0):=hb0.cell (HV.out 3 (by omega));have q4:w2.cell? ⟨w.heap.size,k*9+4,none⟩=some (.int .u32 0):=hb0.cell (HV.out 4 (by omega));have q5:w2.cell? ⟨w.heap.size,k*9+5,none⟩=some (.int .u8 0):=hb0.cell (HV.out 5 (by omega));have q6:w2.cell? ⟨w.heap.size,k*9+6,none⟩=some (.int .u32 0):=hb0.cell (HV.out 6 (by omega));have q7:w2.cell? ⟨w.heap.size,k*9+7,none⟩=some (.int .u32 0):=hb0.cell (HV.out 7 (by omega));have q8:w2.cell? ⟨w.heap.size,k*9+8,none⟩=some (.bool false):=hb0.cell (HV.out 8 (by omega));have fz:∀ j,w2.frozen? ⟨w.heap.size,j,none⟩=false:=(fun j=>(Below.frozen (p:=⟨w.heap.size,j,none⟩) hb0 hsz).trans (hfz j)))))
    go_wp2
    go_roundg (gk-1)
    case rel=>exact⟨i+1,nt.set k (some (r,id)),by have:=HG.out;omega,by go_num,hinv.step hb0 HC.out HD.out HK.out k HkD.out⟩
    case measure=>omega

end Go.Proofs.YtpgcbmbnognieaaGreat
