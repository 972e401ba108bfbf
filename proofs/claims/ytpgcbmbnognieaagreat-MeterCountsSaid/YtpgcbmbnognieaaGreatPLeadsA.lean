/-
  How a store lies in memory; the walks of its small functions.
-/
import Derived.Test.YtpgcbmbnognieaaGreatPIPut
import Derived.Test.YtpgcbmbnognieaaGreatPStA
namespace Go.Proofs.YtpgcbmbnognieaaGreat
set_option linter.unusedSimpArgs false
set_option linter.unusedVariables false
set_option maxHeartbeats 600000
open Go.RowKit

structure StoreRep (F:Nat → Prop) (w:World) (sb:Nat) (M:St):Prop where
 lies:∃ ab ib ts Fa Fi,w.heap[sb]?=some (.cells #[.int .i64 M.n,.pointer (some ⟨ab,0,none⟩),.pointer (some ⟨ib,0,none⟩)] 189 (0,0)) ∧
  ArenaRep Fa w ab M.cs M.gone M.len M.room ∧ IndexRep Fi w ib ts M.len ∧ M.len=(occ ts:Int) ∧ (∀ r id,Tab.has ts r id ↔ look M.cs id=some r) ∧
  (∀ k,Fa k → F k) ∧ (∀ k,Fi k → F k) ∧ (∀ k,Fa k → ¬ Fi k) ∧ ¬ Fa sb ∧ ¬ Fi sb
 own:F sb
 lt:∀ k,F k → k < w.heap.size
 wf:M.wf

theorem StoreRep.keep {F G:Nat → Prop} {w W:World} {sb:Nat} {M:St} (h:StoreRep F w sb M) (hu:Upd G w W) (hd:∀ k,F k → ¬ G k):StoreRep F W sb M:=by
 obtain ⟨⟨ab,ib,ts,Fa,Fi,h1,h2,h3,h4,h5,h6,h7,h8⟩,a1,a2,a3⟩:=h
 exact ⟨⟨ab,ib,ts,Fa,Fi,(hu.block sb (lt_of_heap h1) (hd _ a1)).trans h1,h2.keep hu (fun k hk=>hd _ (h6 k hk)),h3.keep hu (fun k hk=>hd _ (h7 k hk)),h4,h5,h6,h7,h8⟩,a1,fun k hk=>Nat.lt_of_lt_of_le (a2 k hk) hu.size,a3⟩

theorem StoreRep.keeps {F:Nat → Prop} {w W:World} {sb:Nat} {M:St} (h:StoreRep F w sb M) (hu:Keeps w W):StoreRep F W sb M:=
 h.keep (hu.upd (fun _=>False)) (fun _ _ h=>h)

theorem StoreRep.once {F:Nat → Prop} {w:World} {sb:Nat} {M:St} (h:StoreRep F w sb M):M.once:=h.wf.once

theorem StoreRep.fit {F:Nat → Prop} {w:World} {sb:Nat} {M:St} (h:StoreRep F w sb M) {id:Int} {r:Rec} (hl:look M.cs id=some r):r.ok:=by
 obtain ⟨⟨ab,ib,ts,Fa,Fi,h1,h2,_⟩,_⟩:=h
 obtain ⟨_,_,h4⟩:=look_some hl
 exact h2.fit r (List.mem_of_getElem? h4)

theorem Rec.zero_ok:Rec.zero.ok:=⟨by decide,by decide,by decide,⟨by decide,by decide⟩,⟨by decide,by decide⟩⟩

theorem StoreRep.grec {F:Nat → Prop} {w:World} {sb:Nat} {M:St} (h:StoreRep F w sb M) (id:Int):(grec (look M.cs id)).ok:=by
 cases hl:look M.cs id with
 | none=>exact Rec.zero_ok
 | some r=>exact h.fit hl

theorem store_len {F:Nat → Prop} {w:World} {sb:Nat} {M:St} (h:StoreRep F w sb M) :
  Calls Tryz.prog 44 #[.pointer (some ⟨sb,0,none⟩)] w fun e w'=>e=.returned (.int .i64 M.len) ∧ w=w':=by
 obtain ⟨⟨ab,ib,ts,Fa,Fi,h1,h2,-⟩,-⟩:=h
 have c1:w.cell? ⟨sb,1,none⟩=some (.pointer (some ⟨ab,0,none⟩)):=by rw [cell_of_row w sb 1 _ _ _ h1];rfl
 have H:=Lib.hid (arena_len h2)
 clear h1 h2
 go_enter Tryz.func44,Tryz.ntmps44
 go_wp2_with (go_at_call 108;refine H.out.mono ?_;rintro e w' ⟨rfl,rfl⟩)
 go_ret
 exact ⟨rfl,rfl⟩

theorem store_room {F:Nat → Prop} {w:World} {sb:Nat} {M:St} (h:StoreRep F w sb M) :
  Calls Tryz.prog 79 #[.pointer (some ⟨sb,0,none⟩)] w fun e w'=>e=.returned (.int .i64 M.room) ∧ w=w':=by
 obtain ⟨⟨ab,ib,ts,Fa,Fi,h1,h2,-⟩,-⟩:=h
 have c1:w.cell? ⟨sb,1,none⟩=some (.pointer (some ⟨ab,0,none⟩)):=by rw [cell_of_row w sb 1 _ _ _ h1];rfl
 have H:=Lib.hid (arena_room h2)
 clear h1 h2
 go_enter Tryz.func79,Tryz.ntmps79
 go_wp2_with (go_at_call 144;refine H.out.mono ?_;rintro e w' ⟨rfl,rfl⟩)
 go_ret
 exact ⟨rfl,rfl⟩

theorem store_vars {F:Nat → Prop} {w:World} {sb:Nat} {M:St} (h:StoreRep F w sb M) :
  Calls Tryz.prog 67 #[.pointer (some ⟨sb,0,none⟩)] w fun e w'=>e=.returned (.int .i64 M.n) ∧ w=w':=by
 obtain ⟨⟨ab,ib,ts,Fa,Fi,h1,h2,-⟩,-⟩:=h
 have c1:w.cell? ⟨sb,0,none⟩=some (.int .i64 M.n):=by rw [cell_of_row w sb 0 _ _ _ h1];rfl
 clear h1 h2
 go_enter Tryz.func67,Tryz.ntmps67
 go_wp2
 go_ret
 exact ⟨rfl,rfl⟩

theorem store_get {F:Nat → Prop} {w:World} {sb:Nat} {M:St} (h:StoreRep F w sb M) (id:Int) (hid:id ≤ 4294967295) :
  Calls Tryz.prog 80 #[.pointer (some ⟨sb,0,none⟩),.int .u32 id] w fun e w'=>
   e=.returned (.tuple #[.agg #[.int .u8 (grec (look M.cs id)).form,.int .u8 (grec (look M.cs id)).top,.int .u8 (grec (look M.cs id)).bot,.int .u8 (grec (look M.cs id)).lo.tag,.int .u32 (grec (look M.cs id)).lo.to,.int .u8 (grec (look M.cs id)).hi.tag,.int .u32 (grec (look M.cs id)).hi.to],.bool (gsome (look M.cs id))]) ∧ Keeps w w':=by
 obtain ⟨⟨ab,ib,ts,Fa,Fi,h1,h2,-⟩,-⟩:=h
 have c1:w.cell? ⟨sb,1,none⟩=some (.pointer (some ⟨ab,0,none⟩)):=by rw [cell_of_row w sb 1 _ _ _ h1];rfl
 have hsb:=lt_of_heap h1
 have H:=Lib.hid h2
 clear h1 h2
 go_enter Tryz.func80,Tryz.ntmps80
 go_wp2_with (go_at_call 145;refine (arena_get (H.out.keeps (by (exact kp))) id hid).mono ?_;rintro e w1 ⟨rfl,hb⟩;obtain ⟨y0,y1,y2,y3,y4,y5,y6⟩:=box7 (w:=w) (w1:=w1) hb;have hk:Keeps w w1:=(by (exact kp));obtain ⟨hc,hf⟩:=hb.cells;obtain ⟨hcl,hfl⟩:=hk.cells;have hsz:=hb.size;(try simp only [World.size_alloc,World.size_drewN,World.size_drew,World.size_setCell] at hsz);have hsl:=hk.size;have hz0:w.heap.size < w1.heap.size:=(by omega))
 refine bodyPost_ret (v:=.tuple #[.agg #[.int .u8 (grec (look M.cs id)).form,.int .u8 (grec (look M.cs id)).top,.int .u8 (grec (look M.cs id)).bot,.int .u8 (grec (look M.cs id)).lo.tag,.int .u32 (grec (look M.cs id)).lo.to,.int .u8 (grec (look M.cs id)).hi.tag,.int .u32 (grec (look M.cs id)).hi.to],.bool (gsome (look M.cs id))]) (by simp [results,Tryz.results80,go_sem,y0,y1,y2,y3,y4,y5,y6]) rfl ⟨rfl,by (exact kp)⟩

theorem store_has {F:Nat → Prop} {w:World} {sb:Nat} {M:St} (h:StoreRep F w sb M) (r:Rec) (hr:r.ok) :
  Calls Tryz.prog 81 #[.pointer (some ⟨sb,0,none⟩),.agg #[.int .u8 r.form,.int .u8 r.top,.int .u8 r.bot,.int .u8 r.lo.tag,.int .u32 r.lo.to,.int .u8 r.hi.tag,.int .u32 r.hi.to]] w fun e w'=>
   e=.returned (.tuple #[.int .u32 ((M.idOf r).getD 0),.bool (M.idOf r).isSome]) ∧ Keeps w w':=by
 have ho:∀ id,look M.cs id=some r ↔ M.idOf r=some id:=fun id=>idOf_iff h.once r id
 obtain ⟨⟨ab,ib,ts,Fa,Fi,h1,h2,h3,h4,h5,-⟩,-⟩:=h
 have c1:w.cell? ⟨sb,2,none⟩=some (.pointer (some ⟨ib,0,none⟩)):=by rw [cell_of_row w sb 2 _ _ _ h1];rfl
 have hsb:=lt_of_heap h1
 have hg:∀ W,Keeps w W → Calls Tryz.prog 128 #[.pointer (some ⟨ib,0,none⟩),.agg #[.int .u8 r.form,.int .u8 r.top,.int .u8 r.bot,.int .u8 r.lo.tag,.int .u32 r.lo.to,.int .u8 r.hi.tag,.int .u32 r.hi.to]] W fun e w'=>e=.returned (.tuple #[.int .u32 ((M.idOf r).getD 0),.bool (M.idOf r).isSome]) ∧ Keeps W w':=
  fun W hW=>index_get (h3.keeps hW) r hr (M.idOf r) (fun id=>(h5 r id).trans (ho id))
 have H:=Lib.hid hg
 clear h1 h2 h3 h4 h5 ho hg
 generalize (M.idOf r).getD 0=a at *
 generalize (M.idOf r).isSome=b at *
 go_enter Tryz.func81,Tryz.ntmps81
 go_wp2
 go_region_held3 (fun w'=>w'.cell? ⟨sb,2,none⟩=some (.pointer (some ⟨ib,0,none⟩)) ∧ (w'.cell? ⟨w.heap.size,0,none⟩=some (.int .u8 r.form) ∧ w'.cell? ⟨w.heap.size,1,none⟩=some (.int .u8 r.top) ∧ w'.cell? ⟨w.heap.size,2,none⟩=some (.int .u8 r.bot) ∧ w'.cell? ⟨w.heap.size,3,none⟩=some (.int .u8 r.lo.tag) ∧ w'.cell? ⟨w.heap.size,4,none⟩=some (.int .u32 r.lo.to) ∧ w'.cell? ⟨w.heap.size,5,none⟩=some (.int .u8 r.hi.tag) ∧ w'.cell? ⟨w.heap.size,6,none⟩=some (.int .u32 r.hi.to))) (go_keep) ((first | (go_at_call 128;refine (H.out _ (by (exact kp))).mono ?_;rintro e w1 ⟨rfl,hb⟩;obtain ⟨y0,y1,y2,y3,y4,y5,y6⟩:=box7 (w:=w) (w1:=w1) (show Keeps (w.alloc (.cells #[.int .u8 r.form,.int .u8 r.top,.int .u8 r.bot,.int .u8 r.lo.tag,.int .u32 r.lo.to,.int .u8 r.hi.tag,.int .u32 r.hi.to] 125)) w1 by (exact kp));have hk:Keeps w w1:=(by (exact kp));obtain ⟨hc,hf⟩:=hb.cells;obtain ⟨hcl,hfl⟩:=hk.cells;have hsz:=hb.size;(try simp only [World.size_alloc,World.size_drewN,World.size_drew,World.size_setCell] at hsz);have hsl:=hk.size;have hz0:w.heap.size < w1.heap.size:=(by omega))))
 go_outline
 all_goals (go_wp2;go_ret2;exact ⟨rfl,by (exact kp)⟩)

theorem leads_eq (M:St) (f:Int) (e:Edge) (l:Int) (hp:plainB f e l M.n=true) (h2:¬ e.to < 2) :
  M.leads f e l=(gsome (look M.cs e.to) && (grec (look M.cs e.to)).form == f && decide (l ≤ (grec (look M.cs e.to)).top) && decide (e.tag ≤ (grec (look M.cs e.to)).top)):=by
 unfold St.leads
 rw [hp]
 simp only [Bool.true_and,decide_eq_false h2,Bool.false_or]
 cases look M.cs e.to with
 | none=>rfl
 | some r=>show _=(true && _ && _ && _);simp only [Bool.true_and];rfl

set_option maxRecDepth 100000 in
theorem leads_low (sb ab:Nat) (f t a l n:Int) (x:Rec) (b:Bool) (w:World) (ht1:0 ≤ t) (ht2:t ≤ 255) (hx:x.ok)
  (c0:w.cell? ⟨sb,0,none⟩=some (.int .i64 n)) (c1:w.cell? ⟨sb,1,none⟩=some (.pointer (some ⟨ab,0,none⟩)))
  (hget:∀ W,Keeps w W → Calls Tryz.prog 145 #[.pointer (some ⟨ab,0,none⟩),.int .u32 a] W fun e w'=>e=.returned (.tuple #[.agg #[.int .u8 x.form,.int .u8 x.top,.int .u8 x.bot,.int .u8 x.lo.tag,.int .u32 x.lo.to,.int .u8 x.hi.tag,.int .u32 x.hi.to],.bool b]) ∧ Keeps W w') :
  Calls Tryz.prog 130 #[.pointer (some ⟨sb,0,none⟩),.int .u8 f,.agg #[.int .u8 t,.int .u32 a],.int .i64 l] w fun e w'=>
   e=.returned (.bool (plainB f ⟨t,a⟩ l n && (decide (a < 2) || (b && x.form == f && decide (l ≤ x.top) && decide (t ≤ x.top))))) ∧ Keeps w w':=by
 have hsb:sb < w.heap.size:=lt_of_cell c0
 obtain ⟨hx1,⟨hx2,hx3⟩,hx4,hx5,hx6⟩:=hx
 have H:=Lib.hid hget
 clear hget hx1 hx4 hx5 hx6
 have hn1:w.heap.size + 1 ≠ sb:=by omega
 cases hp:plainB f ⟨t,a⟩ l n with
 | false=>
  go_enter Tryz.func130,Tryz.ntmps130
  go_wp2_with fail
  go_region_held3 (fun w'=>w'.cell? ⟨sb,0,none⟩=some (.int .i64 n) ∧ w'.cell? ⟨w.heap.size,0,none⟩=some (.int .u8 t) ∧ w'.cell? ⟨w.heap.size,1,none⟩=some (.int .u32 a)) (go_keep) ((first | (go_at_call 193;refine (plain_calls _ _ _ _ _ _ (by omega) (by omega)).mono ?_;rintro e' w1 ⟨rfl,hb⟩;have hwb:Keeps (w.alloc (.cells #[.int .u8 t,.int .u32 a] 25)) w1:=(by (exact kp));have z0:w1.cell? ⟨w.heap.size,0,none⟩=some (.int .u8 t):=hwb.cell (by simp);have z1:w1.cell? ⟨w.heap.size,1,none⟩=some (.int .u32 a):=hwb.cell (by simp);have hk:Keeps w w1:=(((Keeps.refl _).alloc _).trans hwb);have hsz:=hwb.size;simp only [World.size_alloc] at hsz;have d0:=hk.cell c0;have d1:=hk.cell c1)))
  all_goals (go_wp2;go_ret;exact ⟨rfl,by (exact kp)⟩)
 | true=>
  by_cases h2:a < 2
  ·go_enter Tryz.func130,Tryz.ntmps130
   go_wp2_with fail
   go_region_held3 (fun w'=>w'.cell? ⟨sb,0,none⟩=some (.int .i64 n) ∧ w'.cell? ⟨w.heap.size,0,none⟩=some (.int .u8 t) ∧ w'.cell? ⟨w.heap.size,1,none⟩=some (.int .u32 a)) (go_keep) ((first | (go_at_call 193;refine (plain_calls _ _ _ _ _ _ (by omega) (by omega)).mono ?_;rintro e' w1 ⟨rfl,hb⟩;have hwb:Keeps (w.alloc (.cells #[.int .u8 t,.int .u32 a] 25)) w1:=(by (exact kp));have z0:w1.cell? ⟨w.heap.size,0,none⟩=some (.int .u8 t):=hwb.cell (by simp);have z1:w1.cell? ⟨w.heap.size,1,none⟩=some (.int .u32 a):=hwb.cell (by simp);have hk:Keeps w w1:=(((Keeps.refl _).alloc _).trans hwb);have hsz:=hwb.size;simp only [World.size_alloc] at hsz;have d0:=hk.cell c0;have d1:=hk.cell c1)))
   all_goals (go_wp2;go_ret;exact ⟨by simp [h2],by (exact kp)⟩)
  ·go_enter Tryz.func130,Tryz.ntmps130
   go_wp2_with fail
   go_region_held3 (fun w'=>w'.cell? ⟨sb,0,none⟩=some (.int .i64 n) ∧ w'.cell? ⟨w.heap.size,0,none⟩=some (.int .u8 t) ∧ w'.cell? ⟨w.heap.size,1,none⟩=some (.int .u32 a)) (go_keep) ((first | (go_at_call 193;refine (plain_calls _ _ _ _ _ _ (by omega) (by omega)).mono ?_;rintro e' w1 ⟨rfl,hb⟩;have hwb:Keeps (w.alloc (.cells #[.int .u8 t,.int .u32 a] 25)) w1:=(by (exact kp));have z0:w1.cell? ⟨w.heap.size,0,none⟩=some (.int .u8 t):=hwb.cell (by simp);have z1:w1.cell? ⟨w.heap.size,1,none⟩=some (.int .u32 a):=hwb.cell (by simp);have hk:Keeps w w1:=(((Keeps.refl _).alloc _).trans hwb);have hsz:=hwb.size;simp only [World.size_alloc] at hsz;have d0:=hk.cell c0;have d1:=hk.cell c1)))
   go_wp2
   have hsb1:sb < w1.heap.size:=by omega
   have hn2:w1.heap.size ≠ sb:=by omega
   have hn3:w1.heap.size ≠ w.heap.size:=by omega
   have HK:=Lib.hid hk
   clear hb hk c0 c1 hwb d0
   go_region_held3 (fun w'=>w'.cell? ⟨sb,1,none⟩=some (.pointer (some ⟨ab,0,none⟩)) ∧ w'.cell? ⟨w.heap.size,0,none⟩=some (.int .u8 t) ∧ w'.cell? ⟨w.heap.size,1,none⟩=some (.int .u32 a)) (go_keep) ((first | (go_at_call 145;have hkk:=HK.out;refine (H.out _ (by (exact kp))).mono ?_;rintro e' w2 ⟨rfl,hb⟩;obtain ⟨hc,hf⟩:=hb.cells;have k2:Keeps w1 w2:=(by (exact kp));have v0:=k2.cell z0;have v1:=k2.cell z1;have v2:=k2.cell d1;have hsz2:=k2.size;have hn4:w2.heap.size ≠ sb:=(by omega);have hn5:w2.heap.size ≠ w.heap.size:=(by omega);have hz6:w.heap.size < w2.heap.size:=(by omega))))
   all_goals go_wp2
   all_goals (go_ret;have hkk:=HK.out;refine ⟨?_,by (exact kp)⟩)
   all_goals simp_all
   all_goals (try omega)

theorem store_leads {F:Nat → Prop} {w:World} {sb:Nat} {M:St} (h:StoreRep F w sb M) (f:Int) (e:Edge) (l:Int) (he:e.ok) :
  Calls Tryz.prog 130 #[.pointer (some ⟨sb,0,none⟩),.int .u8 f,.agg #[.int .u8 e.tag,.int .u32 e.to],.int .i64 l] w fun r w'=>r=.returned (.bool (M.leads f e l)) ∧ Keeps w w':=by
 have hx:=h.grec e.to
 obtain ⟨⟨ab,ib,ts,Fa,Fi,h1,h2,-⟩,-⟩:=h
 have c0:w.cell? ⟨sb,0,none⟩=some (.int .i64 M.n):=by rw [cell_of_row w sb 0 _ _ _ h1];rfl
 have c1:w.cell? ⟨sb,1,none⟩=some (.pointer (some ⟨ab,0,none⟩)):=by rw [cell_of_row w sb 1 _ _ _ h1];rfl
 refine (leads_low sb ab f e.tag e.to l M.n (grec (look M.cs e.to)) (gsome (look M.cs e.to)) w he.1.1 he.1.2 hx c0 c1 (fun W hW=>arena_get (h2.keeps hW) e.to he.2.2)).mono ?_
 rintro r w' ⟨rfl,hk⟩
 refine ⟨?_,hk⟩
 congr 2
 cases hp:plainB f e l M.n with
 | false=>simp [St.leads,hp]
 | true=>
  by_cases h2:e.to < 2
  ·simp [St.leads,hp,h2]
  ·rw [leads_eq M f e l hp h2]
   simp [h2]

end Go.Proofs.YtpgcbmbnognieaaGreat
