/-
  How a store lies in memory; the walks of its small functions.
-/
import Derived.Test.YtpgcbmbnognieaaGreatPIPut
import Derived.Test.YtpgcbmbnognieaaGreatPStA
namespace Go.Proofs.YtpgcbmbnognieaaGreat
set_option maxRecDepth 1000000
set_option maxHeartbeats 8000000
set_option linter.unusedSimpArgs false
set_option linter.unusedVariables false
open Go.RowKit

structure StoreRep (F:Nat→Prop)(w:World)(sb:Nat)(M:St):Prop where
 lies:∃ ab ib ts Fa Fi,w.heap[sb]?=some (.cells #[.int .i64 M.n,.pointer (some ⟨ab,0,none⟩),.pointer (some ⟨ib,0,none⟩)] 189 (0,0)) ∧
  ArenaRep Fa w ab M.cs M.gone M.len M.room∧IndexRep Fi w ib ts M.len∧M.len=(occ ts:Int)∧(∀ r id,Tab.has ts r id↔look M.cs id=some r) ∧
  (∀ k,Fa k→F k)∧(∀ k,Fi k→F k)∧(∀ k,Fa k→¬Fi k)∧¬Fa sb∧¬Fi sb
 own:F sb
 lt:∀ k,F k→k<w.heap.size
 wf:M.wf

theorem StoreRep.keep {F G:Nat→Prop}{w W:World}{sb:Nat}{M:St}(h:StoreRep F w sb M)(hu:Upd G w W)(hd:∀ k,F k→¬G k):StoreRep F W sb M:=by
 obtain⟨⟨ab,ib,ts,Fa,Fi,h1,h2,h3,h4,h5,h6,h7,h8⟩,a1,a2,a3⟩:=h
 exact⟨⟨ab,ib,ts,Fa,Fi,(hu.block sb (lt_of_heap h1) (hd _ a1)).trans h1,h2.keep hu (fun k hk=>hd _ (h6 k hk)),h3.keep hu (fun k hk=>hd _ (h7 k hk)),h4,h5,h6,h7,h8⟩,a1,fun k hk=>Nat.lt_of_lt_of_le (a2 k hk) hu.size,a3⟩

theorem StoreRep.keeps {F:Nat→Prop}{w W:World}{sb:Nat}{M:St}(h:StoreRep F w sb M)(hu:Keeps w W):StoreRep F W sb M:=
 h.keep (hu.upd (fun _=>False)) (fun _ _ h=>h)

theorem StoreRep.once {F:Nat→Prop}{w:World}{sb:Nat}{M:St}(h:StoreRep F w sb M):M.once:=h.wf.once

theorem StoreRep.fit {F:Nat→Prop}{w:World}{sb:Nat}{M:St}(h:StoreRep F w sb M){id:Int}{r:Rec}(hl:look M.cs id=some r):r.ok:=by
 obtain⟨⟨ab,ib,ts,Fa,Fi,h1,h2,_⟩,_⟩:=h
 obtain⟨_,_,h4⟩:=look_some hl
 exact h2.fit r (List.mem_of_getElem? h4)

theorem Rec.zero_ok:Rec.zero.ok:=⟨by decide,by decide,by decide,⟨by decide,by decide⟩,⟨by decide,by decide⟩⟩

theorem StoreRep.grec {F:Nat→Prop}{w:World}{sb:Nat}{M:St}(h:StoreRep F w sb M)(id:Int):(grec (look M.cs id)).ok:=by
 cases hl:look M.cs id with
 | none=>exact Rec.zero_ok
 | some r=>exact h.fit hl

theorem store_len {F:Nat→Prop}{w:World}{sb:Nat}{M:St}(h:StoreRep F w sb M) :
  Calls Tryz.prog 44 #[.pointer (some ⟨sb,0,none⟩)] w fun e w'=>e=.returned (.int .i64 M.len)∧w=w':=by
 obtain⟨⟨ab,ib,ts,Fa,Fi,h1,h2,-⟩,-⟩:=h
 have c1:w.cell? ⟨sb,1,none⟩=some (.pointer (some ⟨ab,0,none⟩)):=by rw [cell_of_row w sb 1 _ _ _ h1];rfl
 have H:=Lib.hid (arena_len h2)
 clear h1 h2
 go_enter Tryz.func44,Tryz.ntmps44
 go_wp2_with (go_at_call 108;refine H.out.mono ?_;rintro e w' ⟨rfl,rfl⟩)
 go_ret
 exact⟨rfl,rfl⟩

theorem store_vars {F:Nat→Prop}{w:World}{sb:Nat}{M:St}(h:StoreRep F w sb M) :
  Calls Tryz.prog 67 #[.pointer (some ⟨sb,0,none⟩)] w fun e w'=>e=.returned (.int .i64 M.n)∧w=w':=by
 obtain⟨⟨ab,ib,ts,Fa,Fi,h1,h2,-⟩,-⟩:=h
 have c1:w.cell? ⟨sb,0,none⟩=some (.int .i64 M.n):=by rw [cell_of_row w sb 0 _ _ _ h1];rfl
 clear h1 h2
 go_enter Tryz.func67,Tryz.ntmps67
 go_wp2
 go_ret
 exact⟨rfl,rfl⟩

theorem store_get {F:Nat→Prop}{w:World}{sb:Nat}{M:St}(h:StoreRep F w sb M)(id:Int)(hid:id≤4294967295) :
  Calls Tryz.prog 80 #[.pointer (some ⟨sb,0,none⟩),.int .u32 id] w fun e w'=>
   e=.returned (.tuple #[.agg #[.int .u8 (grec (look M.cs id)).form,.int .u8 (grec (look M.cs id)).top,.int .u8 (grec (look M.cs id)).bot,.int .u8 (grec (look M.cs id)).lo.tag,.int .u32 (grec (look M.cs id)).lo.to,.int .u8 (grec (look M.cs id)).hi.tag,.int .u32 (grec (look M.cs id)).hi.to],.bool (gsome (look M.cs id))])∧Keeps w w':=by
 obtain⟨⟨ab,ib,ts,Fa,Fi,h1,h2,-⟩,-⟩:=h
 have c1:w.cell? ⟨sb,1,none⟩=some (.pointer (some ⟨ab,0,none⟩)):=by rw [cell_of_row w sb 1 _ _ _ h1];rfl
 have hsb:=lt_of_heap h1
 have H:=Lib.hid h2
 clear h1 h2
 go_enter Tryz.func80,Tryz.ntmps80
 go_wp2_with (go_at_call 145;refine(arena_get (H.out.keeps (by(exact kp))) id hid).mono ?_;rintro e w1 ⟨rfl,hb⟩;obtain⟨y0,y1,y2,y3,y4,y5,y6⟩:=box7 (w:=w) (w1:=w1) hb;have hk:Keeps w w1:=(by(exact kp));obtain⟨hc,hf⟩:=hb.cells;obtain⟨hcl,hfl⟩:=hk.cells;have hsz:=hb.size;(try simp only [World.size_alloc,World.size_drewN,World.size_drew,World.size_setCell] at hsz);have hsl:=hk.size;have hz0:w.heap.size<w1.heap.size:=(by omega))
 refine bodyPost_ret (v:=.tuple #[.agg #[.int .u8 (grec (look M.cs id)).form,.int .u8 (grec (look M.cs id)).top,.int .u8 (grec (look M.cs id)).bot,.int .u8 (grec (look M.cs id)).lo.tag,.int .u32 (grec (look M.cs id)).lo.to,.int .u8 (grec (look M.cs id)).hi.tag,.int .u32 (grec (look M.cs id)).hi.to],.bool (gsome (look M.cs id))]) (by simp [results,Tryz.results80,go_sem,y0,y1,y2,y3,y4,y5,y6]) rfl ⟨rfl,by(exact kp)⟩

theorem leads_eq (M:St)(f:Int)(e:Edge)(l:Int)(hp:plainB f e l M.n=true)(h2:¬e.to<2) :
  M.leads f e l=(gsome (look M.cs e.to)&&(grec (look M.cs e.to)).form==f&&decide (l≤(grec (look M.cs e.to)).top)&&decide (e.tag≤(grec (look M.cs e.to)).top)):=by
 unfold St.leads
 rw [hp]
 simp only [Bool.true_and,decide_eq_false h2,Bool.false_or]
 cases look M.cs e.to with
 | none=>rfl
 | some r=>show _=(true&&_&&_&&_);simp only [Bool.true_and];rfl

theorem leads_low (sb ab:Nat)(f t a l n:Int)(x:Rec)(b:Bool)(w:World)(ht1:0≤t)(ht2:t≤255)(hx:x.ok)
  (c0:w.cell? ⟨sb,0,none⟩=some (.int .i64 n)) (c1:w.cell? ⟨sb,1,none⟩=some (.pointer (some ⟨ab,0,none⟩)))
  (hget:∀ W,Keeps w W→Calls Tryz.prog 145 #[.pointer (some ⟨ab,0,none⟩),.int .u32 a] W fun e w'=>e=.returned (.tuple #[.agg #[.int .u8 x.form,.int .u8 x.top,.int .u8 x.bot,.int .u8 x.lo.tag,.int .u32 x.lo.to,.int .u8 x.hi.tag,.int .u32 x.hi.to],.bool b])∧Keeps W w') :
  Calls Tryz.prog 130 #[.pointer (some ⟨sb,0,none⟩),.int .u8 f,.agg #[.int .u8 t,.int .u32 a],.int .i64 l] w fun e w'=>
   e=.returned (.bool (plainB f ⟨t,a⟩ l n&&(decide (a<2)||(b&&x.form==f&&decide (l≤x.top)&&decide (t≤x.top)))))∧Keeps w w':=by
 have hsb:sb<w.heap.size:=lt_of_cell c0
 obtain⟨hx1,⟨hx2,hx3⟩,hx4,hx5,hx6⟩:=hx
 have H:=Lib.hid hget
 clear hget hx1 hx4 hx5 hx6
 have hn1:w.heap.size+1≠sb:=by omega
 cases hp:plainB f ⟨t,a⟩ l n with
 | false=>
  go_enter Tryz.func130,Tryz.ntmps130
  go_wp2_with fail
  go_region_held3 (fun w'=>w'.cell? ⟨sb,0,none⟩=some (.int .i64 n)∧w'.cell? ⟨w.heap.size,0,none⟩=some (.int .u8 t)∧w'.cell? ⟨w.heap.size,1,none⟩=some (.int .u32 a)) (go_keep) ((first|(go_at_call 193;refine(plain_calls _ _ _ _ _ _ (by omega) (by omega)).mono ?_;rintro e' w1 ⟨rfl,hb⟩;have hwb:Keeps (w.alloc (.cells #[.int .u8 t,.int .u32 a] 25)) w1:=(by(exact kp));have z0:w1.cell? ⟨w.heap.size,0,none⟩=some (.int .u8 t):=hwb.cell (by simp);have z1:w1.cell? ⟨w.heap.size,1,none⟩=some (.int .u32 a):=hwb.cell (by simp);have hk:Keeps w w1:=(((Keeps.refl _).alloc _).trans hwb);have hsz:=hwb.size;simp only [World.size_alloc] at hsz;have d0:=hk.cell c0;have d1:=hk.cell c1)))
  all_goals(go_wp2;go_ret;exact⟨rfl,by(exact kp)⟩)
 | true=>
  by_cases h2:a<2
  ·go_enter Tryz.func130,Tryz.ntmps130
   go_wp2_with fail
   go_region_held3 (fun w'=>w'.cell? ⟨sb,0,none⟩=some (.int .i64 n)∧w'.cell? ⟨w.heap.size,0,none⟩=some (.int .u8 t)∧w'.cell? ⟨w.heap.size,1,none⟩=some (.int .u32 a)) (go_keep) ((first|(go_at_call 193;refine(plain_calls _ _ _ _ _ _ (by omega) (by omega)).mono ?_;rintro e' w1 ⟨rfl,hb⟩;have hwb:Keeps (w.alloc (.cells #[.int .u8 t,.int .u32 a] 25)) w1:=(by(exact kp));have z0:w1.cell? ⟨w.heap.size,0,none⟩=some (.int .u8 t):=hwb.cell (by simp);have z1:w1.cell? ⟨w.heap.size,1,none⟩=some (.int .u32 a):=hwb.cell (by simp);have hk:Keeps w w1:=(((Keeps.refl _).alloc _).trans hwb);have hsz:=hwb.size;simp only [World.size_alloc] at hsz;have d0:=hk.cell c0;have d1:=hk.cell c1)))
   all_goals(go_wp2;go_ret;exact⟨by simp [h2],by(exact kp)⟩)
  ·go_enter Tryz.func130,Tryz.ntmps130
   go_wp2_with fail
   go_region_held3 (fun w'=>w'.cell? ⟨sb,0,none⟩=some (.int .i64 n)∧w'.cell? ⟨w.heap.size,0,none⟩=some (.int .u8 t)∧w'.cell? ⟨w.heap.size,1,none⟩=some (.int .u32 a)) (go_keep) ((first|(go_at_call 193;refine(plain_calls _ _ _ _ _ _ (by omega) (by omega)).mono ?_;rintro e' w1 ⟨rfl,hb⟩;have hwb:Keeps (w.alloc (.cells #[.int .u8 t,.int .u32 a] 25)) w1:=(by(exact kp));have z0:w1.cell? ⟨w.heap.size,0,none⟩=some (.int .u8 t):=hwb.cell (by simp);have z1:w1.cell? ⟨w.heap.size,1,none⟩=some (.int .u32 a):=hwb.cell (by simp);have hk:Keeps w w1:=(((Keeps.refl _).alloc _).trans hwb);have hsz:=hwb.size;simp only [World.size_alloc] at hsz;have d0:=hk.cell c0;have d1:=hk.cell c1)))
   go_wp2
   have hsb1:sb<w1.heap.size:=by omega
   have hn2:w1.heap.size≠sb:=by omega
   have hn3:w1.heap.size≠w.heap.size:=by omega
   have HK:=Lib.hid hk
   clear hb hk c0 c1 hwb d0
   go_region_held3 (fun w'=>w'.cell? ⟨sb,1,none⟩=some (.pointer (some ⟨ab,0,none⟩))∧w'.cell? ⟨w.heap.size,0,none⟩=some (.int .u8 t)∧w'.cell? ⟨w.heap.size,1,none⟩=some (.int .u32 a)) (go_keep) ((first|(go_at_call 145;have hkk:=HK.out;refine(H.out _ (by(exact kp))).mono ?_;rintro e' w2 ⟨rfl,hb⟩;obtain⟨hc,hf⟩:=hb.cells;have k2:Keeps w1 w2:=(by(exact kp));have v0:=k2.cell z0;have v1:=k2.cell z1;have v2:=k2.cell d1;have hsz2:=k2.size;have hn4:w2.heap.size≠sb:=(by omega);have hn5:w2.heap.size≠w.heap.size:=(by omega);have hz6:w.heap.size<w2.heap.size:=(by omega))))
   all_goals go_wp2
   all_goals(go_ret;have hkk:=HK.out;refine⟨?_,by(exact kp)⟩)
   all_goals simp_all
   all_goals(try omega)

theorem store_leads {F:Nat→Prop}{w:World}{sb:Nat}{M:St}(h:StoreRep F w sb M)(f:Int)(e:Edge)(l:Int)(he:e.ok) :
  Calls Tryz.prog 130 #[.pointer (some ⟨sb,0,none⟩),.int .u8 f,.agg #[.int .u8 e.tag,.int .u32 e.to],.int .i64 l] w fun r w'=>r=.returned (.bool (M.leads f e l))∧Keeps w w':=by
 have hx:=h.grec e.to
 obtain⟨⟨ab,ib,ts,Fa,Fi,h1,h2,-⟩,-⟩:=h
 have c0:w.cell? ⟨sb,0,none⟩=some (.int .i64 M.n):=by rw [cell_of_row w sb 0 _ _ _ h1];rfl
 have c1:w.cell? ⟨sb,1,none⟩=some (.pointer (some ⟨ab,0,none⟩)):=by rw [cell_of_row w sb 1 _ _ _ h1];rfl
 refine(leads_low sb ab f e.tag e.to l M.n (grec (look M.cs e.to)) (gsome (look M.cs e.to)) w he.1.1 he.1.2 hx c0 c1 (fun W hW=>arena_get (h2.keeps hW) e.to he.2.2)).mono ?_
 rintro r w' ⟨rfl,hk⟩
 refine⟨?_,hk⟩
 congr 2
 cases hp:plainB f e l M.n with
 | false=>simp [St.leads,hp]
 | true=>
  by_cases h2:e.to<2
  ·simp [St.leads,hp,h2]
  ·rw [leads_eq M f e l hp h2]
   simp [h2]

theorem Upd.cell {F:Nat→Prop}{w w':World}(h:Upd F w w'){a:Addr}{v:Value}(hf:¬F a.block)(hc:w.cell? a=some v):w'.cell? a=some v:=
 (World.cell?_of_block (h.block a.block (lt_of_cell hc) hf)).trans hc

theorem Upd.frozen {F:Nat→Prop}{w w':World}(h:Upd F w w'){a:Addr}(hl:a.block<w.heap.size)(hf:¬F a.block)(hc:w.frozen? a=false):w'.frozen? a=false:=
 (World.frozen?_of_block (h.block a.block hl hf)).trans hc

theorem Upd.cell7 {F:Nat→Prop}{w w1:World}(h:Upd F w w1){k:Nat}(hf:¬F k){a b c d e f g:Value}
  (hb:w.cell? ⟨k,0,none⟩=some a∧w.cell? ⟨k,1,none⟩=some b∧w.cell? ⟨k,2,none⟩=some c∧w.cell? ⟨k,3,none⟩=some d∧w.cell? ⟨k,4,none⟩=some e∧w.cell? ⟨k,5,none⟩=some f∧w.cell? ⟨k,6,none⟩=some g) :
  w1.cell? ⟨k,0,none⟩=some a∧w1.cell? ⟨k,1,none⟩=some b∧w1.cell? ⟨k,2,none⟩=some c∧w1.cell? ⟨k,3,none⟩=some d∧w1.cell? ⟨k,4,none⟩=some e∧w1.cell? ⟨k,5,none⟩=some f∧w1.cell? ⟨k,6,none⟩=some g:=by
 obtain⟨h0,h1,h2,h3,h4,h5,h6⟩:=hb
 exact⟨h.cell hf h0,h.cell hf h1,h.cell hf h2,h.cell hf h3,h.cell hf h4,h.cell hf h5,h.cell hf h6⟩

theorem sfind_old (sb ib:Nat)(r:Rec)(id:Int)(n:Int)(a1:Value)(w:World)
  (c0:w.cell? ⟨sb,0,none⟩=some (.int .i64 n)) (c1:w.cell? ⟨sb,1,none⟩=some a1) (c2:w.cell? ⟨sb,2,none⟩=some (.pointer (some ⟨ib,0,none⟩)))
  (hg:∀ W,Keeps w W→Calls Tryz.prog 128 #[.pointer (some ⟨ib,0,none⟩),.agg #[.int .u8 r.form,.int .u8 r.top,.int .u8 r.bot,.int .u8 r.lo.tag,.int .u32 r.lo.to,.int .u8 r.hi.tag,.int .u32 r.hi.to]] W fun e w'=>e=.returned (.tuple #[.int .u32 id,.bool true])∧Keeps W w') :
  Calls Tryz.prog 64 #[.pointer (some ⟨sb,0,none⟩),.agg #[.int .u8 r.form,.int .u8 r.top,.int .u8 r.bot,.int .u8 r.lo.tag,.int .u32 r.lo.to,.int .u8 r.hi.tag,.int .u32 r.hi.to]] w fun e w'=>e=.returned (.tuple #[.int .u32 id,.int .u8 0])∧Keeps w w':=by
 have hsb:sb<w.heap.size:=lt_of_cell c0
 have Hg:=Lib.hid hg
 clear hg
 go_enter Tryz.func64,Tryz.ntmps64
 go_wp2_with fail
 go_region_held3 (fun w'=>w'.cell? ⟨sb,2,none⟩=some (.pointer (some ⟨ib,0,none⟩))∧(w'.cell? ⟨w.heap.size,0,none⟩=some (.int .u8 r.form)∧w'.cell? ⟨w.heap.size,1,none⟩=some (.int .u8 r.top)∧w'.cell? ⟨w.heap.size,2,none⟩=some (.int .u8 r.bot)∧w'.cell? ⟨w.heap.size,3,none⟩=some (.int .u8 r.lo.tag)∧w'.cell? ⟨w.heap.size,4,none⟩=some (.int .u32 r.lo.to)∧w'.cell? ⟨w.heap.size,5,none⟩=some (.int .u8 r.hi.tag)∧w'.cell? ⟨w.heap.size,6,none⟩=some (.int .u32 r.hi.to))) (go_keep) ((first|(go_at_call 128;refine(Hg.out _ (by(exact kp))).mono ?_;rintro e w1 ⟨rfl,hb⟩;have hwb:Keeps (w.alloc (.cells #[.int .u8 r.form,.int .u8 r.top,.int .u8 r.bot,.int .u8 r.lo.tag,.int .u32 r.lo.to,.int .u8 r.hi.tag,.int .u32 r.hi.to] 125)) w1:=(by(exact kp));obtain⟨y0,y1,y2,y3,y4,y5,y6⟩:=box7 hwb;have hk:Keeps w w1:=(((Keeps.refl _).alloc _).trans hwb);have hsz:=hwb.size;simp only [World.size_alloc] at hsz;have d0:=hk.cell c0;have d1:=hk.cell c1;have d2:=hk.cell c2)))
 all_goals(go_wp2;go_ret2;exact⟨rfl,by(exact kp)⟩)

theorem sfind_bad1 (sb ib:Nat)(r:Rec)(hb1:0≤r.bot)(hb2:r.bot≤255)(n:Int)(a1:Value)(w:World)
  (c0:w.cell? ⟨sb,0,none⟩=some (.int .i64 n)) (c1:w.cell? ⟨sb,1,none⟩=some a1) (c2:w.cell? ⟨sb,2,none⟩=some (.pointer (some ⟨ib,0,none⟩)))
  (hg:∀ W,Keeps w W→Calls Tryz.prog 128 #[.pointer (some ⟨ib,0,none⟩),.agg #[.int .u8 r.form,.int .u8 r.top,.int .u8 r.bot,.int .u8 r.lo.tag,.int .u32 r.lo.to,.int .u8 r.hi.tag,.int .u32 r.hi.to]] W fun e w'=>e=.returned (.tuple #[.int .u32 0,.bool false])∧Keeps W w')
  (hr:∀ W,Calls Tryz.prog 129 #[.agg #[.int .u8 r.form,.int .u8 r.top,.int .u8 r.bot,.int .u8 r.lo.tag,.int .u32 r.lo.to,.int .u8 r.hi.tag,.int .u32 r.hi.to],.int .i64 n] W fun e w'=>e=.returned (.bool false)∧Keeps W w')
  : Calls Tryz.prog 64 #[.pointer (some ⟨sb,0,none⟩),.agg #[.int .u8 r.form,.int .u8 r.top,.int .u8 r.bot,.int .u8 r.lo.tag,.int .u32 r.lo.to,.int .u8 r.hi.tag,.int .u32 r.hi.to]] w fun e w'=>e=.returned (.tuple #[.int .u32 0,.int .u8 1])∧Keeps w w':=by
 have hsb:sb<w.heap.size:=lt_of_cell c0
 have Hg:=Lib.hid hg
 have Hr:=Lib.hid hr
 clear hg hr
 go_enter Tryz.func64,Tryz.ntmps64
 go_wp2_with fail
 go_region_held3 (fun w'=>w'.cell? ⟨sb,2,none⟩=some (.pointer (some ⟨ib,0,none⟩))∧(w'.cell? ⟨w.heap.size,0,none⟩=some (.int .u8 r.form)∧w'.cell? ⟨w.heap.size,1,none⟩=some (.int .u8 r.top)∧w'.cell? ⟨w.heap.size,2,none⟩=some (.int .u8 r.bot)∧w'.cell? ⟨w.heap.size,3,none⟩=some (.int .u8 r.lo.tag)∧w'.cell? ⟨w.heap.size,4,none⟩=some (.int .u32 r.lo.to)∧w'.cell? ⟨w.heap.size,5,none⟩=some (.int .u8 r.hi.tag)∧w'.cell? ⟨w.heap.size,6,none⟩=some (.int .u32 r.hi.to))) (go_keep) ((first|(go_at_call 128;refine(Hg.out _ (by(exact kp))).mono ?_;rintro e w1 ⟨rfl,hb⟩;have hwb:Keeps (w.alloc (.cells #[.int .u8 r.form,.int .u8 r.top,.int .u8 r.bot,.int .u8 r.lo.tag,.int .u32 r.lo.to,.int .u8 r.hi.tag,.int .u32 r.hi.to] 125)) w1:=(by(exact kp));obtain⟨y0,y1,y2,y3,y4,y5,y6⟩:=box7 hwb;have hk:Keeps w w1:=(((Keeps.refl _).alloc _).trans hwb);have hsz:=hwb.size;simp only [World.size_alloc] at hsz;have d0:=hk.cell c0;have d1:=hk.cell c1;have d2:=hk.cell c2)))
 go_wp2_with fail
 have d0k:=KWorld.cell d0
 have y0k:=KWorld.cell y0
 have y1k:=KWorld.cell y1
 have y2k:=KWorld.cell y2
 have y3k:=KWorld.cell y3
 have y4k:=KWorld.cell y4
 have y5k:=KWorld.cell y5
 have y6k:=KWorld.cell y6
 refine wp_region_keeps (w1) (by kernel_rfl) (by kernel_rfl) (by(exact kp)) ?_;(repeat (go_big_quiet_step ((first|(go_at_call 129;refine Calls.keepsK (Hr.out _))))));refine wpQuiet_nil ?_;rintro wq ⟨⟨_,hkq⟩,rfl⟩;try dsimp only
 go_wp2
 go_ret2
 exact⟨rfl,by(exact kp)⟩

theorem sfind_bad2 (sb ib:Nat)(r:Rec)(hb1:0≤r.bot)(hb2:r.bot≤255)(n:Int)(a1:Value)(w:World)
  (c0:w.cell? ⟨sb,0,none⟩=some (.int .i64 n)) (c1:w.cell? ⟨sb,1,none⟩=some a1) (c2:w.cell? ⟨sb,2,none⟩=some (.pointer (some ⟨ib,0,none⟩)))
  (hg:∀ W,Keeps w W→Calls Tryz.prog 128 #[.pointer (some ⟨ib,0,none⟩),.agg #[.int .u8 r.form,.int .u8 r.top,.int .u8 r.bot,.int .u8 r.lo.tag,.int .u32 r.lo.to,.int .u8 r.hi.tag,.int .u32 r.hi.to]] W fun e w'=>e=.returned (.tuple #[.int .u32 0,.bool false])∧Keeps W w')
  (hr:∀ W,Calls Tryz.prog 129 #[.agg #[.int .u8 r.form,.int .u8 r.top,.int .u8 r.bot,.int .u8 r.lo.tag,.int .u32 r.lo.to,.int .u8 r.hi.tag,.int .u32 r.hi.to],.int .i64 n] W fun e w'=>e=.returned (.bool true)∧Keeps W w')
  (hlo:∀ W,Keeps w W→Calls Tryz.prog 130 #[.pointer (some ⟨sb,0,none⟩),.int .u8 r.form,.agg #[.int .u8 r.lo.tag,.int .u32 r.lo.to],.int .i64 (r.bot+1)] W fun e w'=>e=.returned (.bool false)∧Keeps W w')
  : Calls Tryz.prog 64 #[.pointer (some ⟨sb,0,none⟩),.agg #[.int .u8 r.form,.int .u8 r.top,.int .u8 r.bot,.int .u8 r.lo.tag,.int .u32 r.lo.to,.int .u8 r.hi.tag,.int .u32 r.hi.to]] w fun e w'=>e=.returned (.tuple #[.int .u32 0,.int .u8 1])∧Keeps w w':=by
 have hsb:sb<w.heap.size:=lt_of_cell c0
 have Hg:=Lib.hid hg
 have Hr:=Lib.hid hr
 have Hlo:=Lib.hid hlo
 clear hg hr hlo
 go_enter Tryz.func64,Tryz.ntmps64
 go_wp2_with fail
 go_region_held3 (fun w'=>w'.cell? ⟨sb,2,none⟩=some (.pointer (some ⟨ib,0,none⟩))∧(w'.cell? ⟨w.heap.size,0,none⟩=some (.int .u8 r.form)∧w'.cell? ⟨w.heap.size,1,none⟩=some (.int .u8 r.top)∧w'.cell? ⟨w.heap.size,2,none⟩=some (.int .u8 r.bot)∧w'.cell? ⟨w.heap.size,3,none⟩=some (.int .u8 r.lo.tag)∧w'.cell? ⟨w.heap.size,4,none⟩=some (.int .u32 r.lo.to)∧w'.cell? ⟨w.heap.size,5,none⟩=some (.int .u8 r.hi.tag)∧w'.cell? ⟨w.heap.size,6,none⟩=some (.int .u32 r.hi.to))) (go_keep) ((first|(go_at_call 128;refine(Hg.out _ (by(exact kp))).mono ?_;rintro e w1 ⟨rfl,hb⟩;have hwb:Keeps (w.alloc (.cells #[.int .u8 r.form,.int .u8 r.top,.int .u8 r.bot,.int .u8 r.lo.tag,.int .u32 r.lo.to,.int .u8 r.hi.tag,.int .u32 r.hi.to] 125)) w1:=(by(exact kp));obtain⟨y0,y1,y2,y3,y4,y5,y6⟩:=box7 hwb;have hk:Keeps w w1:=(((Keeps.refl _).alloc _).trans hwb);have hsz:=hwb.size;simp only [World.size_alloc] at hsz;have d0:=hk.cell c0;have d1:=hk.cell c1;have d2:=hk.cell c2)))
 go_wp2_with fail
 have d0k:=KWorld.cell d0
 have y0k:=KWorld.cell y0
 have y1k:=KWorld.cell y1
 have y2k:=KWorld.cell y2
 have y3k:=KWorld.cell y3
 have y4k:=KWorld.cell y4
 have y5k:=KWorld.cell y5
 have y6k:=KWorld.cell y6
 refine wp_region_keeps (w1) (by kernel_rfl) (by kernel_rfl) (by(exact kp)) ?_;(repeat (go_big_quiet_step ((first|(go_at_call 129;refine Calls.keepsK (Hr.out _))|(go_at_call 130;with_reducible refine Calls.keepsK (Hlo.out _ (hk.trans (KWorld.keep _))))))));refine wpQuiet_nil ?_;rintro wq ⟨⟨_,hkq⟩,rfl⟩;try dsimp only
 go_wp2
 go_ret2
 exact⟨rfl,by(exact kp)⟩

theorem sfind_bad3 (sb ib:Nat)(r:Rec)(hb1:0≤r.bot)(hb2:r.bot≤255)(n:Int)(a1:Value)(w:World)
  (c0:w.cell? ⟨sb,0,none⟩=some (.int .i64 n)) (c1:w.cell? ⟨sb,1,none⟩=some a1) (c2:w.cell? ⟨sb,2,none⟩=some (.pointer (some ⟨ib,0,none⟩)))
  (hg:∀ W,Keeps w W→Calls Tryz.prog 128 #[.pointer (some ⟨ib,0,none⟩),.agg #[.int .u8 r.form,.int .u8 r.top,.int .u8 r.bot,.int .u8 r.lo.tag,.int .u32 r.lo.to,.int .u8 r.hi.tag,.int .u32 r.hi.to]] W fun e w'=>e=.returned (.tuple #[.int .u32 0,.bool false])∧Keeps W w')
  (hr:∀ W,Calls Tryz.prog 129 #[.agg #[.int .u8 r.form,.int .u8 r.top,.int .u8 r.bot,.int .u8 r.lo.tag,.int .u32 r.lo.to,.int .u8 r.hi.tag,.int .u32 r.hi.to],.int .i64 n] W fun e w'=>e=.returned (.bool true)∧Keeps W w')
  (hlo:∀ W,Keeps w W→Calls Tryz.prog 130 #[.pointer (some ⟨sb,0,none⟩),.int .u8 r.form,.agg #[.int .u8 r.lo.tag,.int .u32 r.lo.to],.int .i64 (r.bot+1)] W fun e w'=>e=.returned (.bool true)∧Keeps W w')
  (hhi:∀ W,Keeps w W→Calls Tryz.prog 130 #[.pointer (some ⟨sb,0,none⟩),.int .u8 r.form,.agg #[.int .u8 r.hi.tag,.int .u32 r.hi.to],.int .i64 (r.bot+1)] W fun e w'=>e=.returned (.bool false)∧Keeps W w')
  : Calls Tryz.prog 64 #[.pointer (some ⟨sb,0,none⟩),.agg #[.int .u8 r.form,.int .u8 r.top,.int .u8 r.bot,.int .u8 r.lo.tag,.int .u32 r.lo.to,.int .u8 r.hi.tag,.int .u32 r.hi.to]] w fun e w'=>e=.returned (.tuple #[.int .u32 0,.int .u8 1])∧Keeps w w':=by
 have hsb:sb<w.heap.size:=lt_of_cell c0
 have Hg:=Lib.hid hg
 have Hr:=Lib.hid hr
 have Hlo:=Lib.hid hlo
 have Hhi:=Lib.hid hhi
 clear hg hr hlo hhi
 go_enter Tryz.func64,Tryz.ntmps64
 go_wp2_with fail
 go_region_held3 (fun w'=>w'.cell? ⟨sb,2,none⟩=some (.pointer (some ⟨ib,0,none⟩))∧(w'.cell? ⟨w.heap.size,0,none⟩=some (.int .u8 r.form)∧w'.cell? ⟨w.heap.size,1,none⟩=some (.int .u8 r.top)∧w'.cell? ⟨w.heap.size,2,none⟩=some (.int .u8 r.bot)∧w'.cell? ⟨w.heap.size,3,none⟩=some (.int .u8 r.lo.tag)∧w'.cell? ⟨w.heap.size,4,none⟩=some (.int .u32 r.lo.to)∧w'.cell? ⟨w.heap.size,5,none⟩=some (.int .u8 r.hi.tag)∧w'.cell? ⟨w.heap.size,6,none⟩=some (.int .u32 r.hi.to))) (go_keep) ((first|(go_at_call 128;refine(Hg.out _ (by(exact kp))).mono ?_;rintro e w1 ⟨rfl,hb⟩;have hwb:Keeps (w.alloc (.cells #[.int .u8 r.form,.int .u8 r.top,.int .u8 r.bot,.int .u8 r.lo.tag,.int .u32 r.lo.to,.int .u8 r.hi.tag,.int .u32 r.hi.to] 125)) w1:=(by(exact kp));obtain⟨y0,y1,y2,y3,y4,y5,y6⟩:=box7 hwb;have hk:Keeps w w1:=(((Keeps.refl _).alloc _).trans hwb);have hsz:=hwb.size;simp only [World.size_alloc] at hsz;have d0:=hk.cell c0;have d1:=hk.cell c1;have d2:=hk.cell c2)))
 go_wp2_with fail
 have d0k:=KWorld.cell d0
 have y0k:=KWorld.cell y0
 have y1k:=KWorld.cell y1
 have y2k:=KWorld.cell y2
 have y3k:=KWorld.cell y3
 have y4k:=KWorld.cell y4
 have y5k:=KWorld.cell y5
 have y6k:=KWorld.cell y6
 refine wp_region_keeps (w1) (by kernel_rfl) (by kernel_rfl) (by(exact kp)) ?_;(repeat (go_big_quiet_step ((first|(go_at_call 129;refine Calls.keepsK (Hr.out _))|(go_at_call 130;with_reducible refine Calls.keepsK (Hlo.out _ (hk.trans (KWorld.keep _))))|(go_at_call 130;with_reducible refine Calls.keepsK (Hhi.out _ (hk.trans (KWorld.keep _))))))));refine wpQuiet_nil ?_;rintro wq ⟨⟨_,hkq⟩,rfl⟩;try dsimp only
 go_wp2
 go_ret2
 exact⟨rfl,by(exact kp)⟩

theorem sfind_full (sb ib:Nat)(r:Rec)(hb1:0≤r.bot)(hb2:r.bot≤255)(n:Int)(ab:Nat)(w:World)
  (c0:w.cell? ⟨sb,0,none⟩=some (.int .i64 n)) (c1:w.cell? ⟨sb,1,none⟩=some (.pointer (some ⟨ab,0,none⟩))) (c2:w.cell? ⟨sb,2,none⟩=some (.pointer (some ⟨ib,0,none⟩)))
  (hg:∀ W,Keeps w W→Calls Tryz.prog 128 #[.pointer (some ⟨ib,0,none⟩),.agg #[.int .u8 r.form,.int .u8 r.top,.int .u8 r.bot,.int .u8 r.lo.tag,.int .u32 r.lo.to,.int .u8 r.hi.tag,.int .u32 r.hi.to]] W fun e w'=>e=.returned (.tuple #[.int .u32 0,.bool false])∧Keeps W w')
  (hr:∀ W,Calls Tryz.prog 129 #[.agg #[.int .u8 r.form,.int .u8 r.top,.int .u8 r.bot,.int .u8 r.lo.tag,.int .u32 r.lo.to,.int .u8 r.hi.tag,.int .u32 r.hi.to],.int .i64 n] W fun e w'=>e=.returned (.bool true)∧Keeps W w')
  (hlo:∀ W,Keeps w W→Calls Tryz.prog 130 #[.pointer (some ⟨sb,0,none⟩),.int .u8 r.form,.agg #[.int .u8 r.lo.tag,.int .u32 r.lo.to],.int .i64 (r.bot+1)] W fun e w'=>e=.returned (.bool true)∧Keeps W w')
  (hhi:∀ W,Keeps w W→Calls Tryz.prog 130 #[.pointer (some ⟨sb,0,none⟩),.int .u8 r.form,.agg #[.int .u8 r.hi.tag,.int .u32 r.hi.to],.int .i64 (r.bot+1)] W fun e w'=>e=.returned (.bool true)∧Keeps W w')
  (hp:∀ W,Keeps w W→Calls Tryz.prog 131 #[.pointer (some ⟨ab,0,none⟩),.agg #[.int .u8 r.form,.int .u8 r.top,.int .u8 r.bot,.int .u8 r.lo.tag,.int .u32 r.lo.to,.int .u8 r.hi.tag,.int .u32 r.hi.to]] W fun e w'=>e=.returned (.tuple #[.int .u32 0,.bool false])∧Keeps W w') :
  Calls Tryz.prog 64 #[.pointer (some ⟨sb,0,none⟩),.agg #[.int .u8 r.form,.int .u8 r.top,.int .u8 r.bot,.int .u8 r.lo.tag,.int .u32 r.lo.to,.int .u8 r.hi.tag,.int .u32 r.hi.to]] w fun e w'=>e=.returned (.tuple #[.int .u32 0,.int .u8 6])∧Keeps w w':=by
 have Hp:=Lib.hid hp
 clear hp
 have hsb:sb<w.heap.size:=lt_of_cell c0
 have Hg:=Lib.hid hg
 have Hr:=Lib.hid hr
 have Hlo:=Lib.hid hlo
 have Hhi:=Lib.hid hhi
 clear hg hr hlo hhi
 go_enter Tryz.func64,Tryz.ntmps64
 go_wp2_with fail
 go_region_held3 (fun w'=>w'.cell? ⟨sb,2,none⟩=some (.pointer (some ⟨ib,0,none⟩))∧(w'.cell? ⟨w.heap.size,0,none⟩=some (.int .u8 r.form)∧w'.cell? ⟨w.heap.size,1,none⟩=some (.int .u8 r.top)∧w'.cell? ⟨w.heap.size,2,none⟩=some (.int .u8 r.bot)∧w'.cell? ⟨w.heap.size,3,none⟩=some (.int .u8 r.lo.tag)∧w'.cell? ⟨w.heap.size,4,none⟩=some (.int .u32 r.lo.to)∧w'.cell? ⟨w.heap.size,5,none⟩=some (.int .u8 r.hi.tag)∧w'.cell? ⟨w.heap.size,6,none⟩=some (.int .u32 r.hi.to))) (go_keep) ((first|(go_at_call 128;refine(Hg.out _ (by(exact kp))).mono ?_;rintro e w1 ⟨rfl,hb⟩;have hwb:Keeps (w.alloc (.cells #[.int .u8 r.form,.int .u8 r.top,.int .u8 r.bot,.int .u8 r.lo.tag,.int .u32 r.lo.to,.int .u8 r.hi.tag,.int .u32 r.hi.to] 125)) w1:=(by(exact kp));obtain⟨y0,y1,y2,y3,y4,y5,y6⟩:=box7 hwb;have hk:Keeps w w1:=(((Keeps.refl _).alloc _).trans hwb);have hsz:=hwb.size;simp only [World.size_alloc] at hsz;have d0:=hk.cell c0;have d1:=hk.cell c1;have d2:=hk.cell c2)))
 go_wp2_with fail
 have d0k:=KWorld.cell d0
 have y0k:=KWorld.cell y0
 have y1k:=KWorld.cell y1
 have y2k:=KWorld.cell y2
 have y3k:=KWorld.cell y3
 have y4k:=KWorld.cell y4
 have y5k:=KWorld.cell y5
 have y6k:=KWorld.cell y6
 refine wp_region_keeps (w1) (by kernel_rfl) (by kernel_rfl) (by(exact kp)) ?_;(repeat (go_big_quiet_step ((first|(go_at_call 129;refine Calls.keepsK (Hr.out _))|(go_at_call 130;with_reducible refine Calls.keepsK (Hlo.out _ (hk.trans (KWorld.keep _))))|(go_at_call 130;with_reducible refine Calls.keepsK (Hhi.out _ (hk.trans (KWorld.keep _))))))));refine wpQuiet_nil ?_;rintro wq ⟨⟨_,hkq⟩,rfl⟩;try dsimp only
 go_wp2_with fail
 have hkw:Keeps w wq:=hk.trans hkq
 have d1k:∀ x:KWorld wq,x.w.cell? ⟨sb,1,none⟩=some (.pointer (some ⟨ab,0,none⟩)):=KWorld.cell (hkq.cell d1)
 have z0k:∀ x:KWorld wq,x.w.cell? _=_:=KWorld.cell (hkq.cell y0)
 have z1k:∀ x:KWorld wq,x.w.cell? _=_:=KWorld.cell (hkq.cell y1)
 have z2k:∀ x:KWorld wq,x.w.cell? _=_:=KWorld.cell (hkq.cell y2)
 have z3k:∀ x:KWorld wq,x.w.cell? _=_:=KWorld.cell (hkq.cell y3)
 have z4k:∀ x:KWorld wq,x.w.cell? _=_:=KWorld.cell (hkq.cell y4)
 have z5k:∀ x:KWorld wq,x.w.cell? _=_:=KWorld.cell (hkq.cell y5)
 have z6k:∀ x:KWorld wq,x.w.cell? _=_:=KWorld.cell (hkq.cell y6)
 refine wp_region_keeps (wq) (by kernel_rfl) (by kernel_rfl) (by(exact kp)) ?_;(repeat (go_big_quiet_step ((first|(go_at_call 131;refine Calls.keepsK (Hp.out _ (hkw.trans (KWorld.keep _))))))));refine wpQuiet_nil ?_;rintro wq ⟨⟨_,hkq⟩,rfl⟩;try dsimp only
 go_wp2
 go_ret2
 exact⟨rfl,hkw.trans (by assumption)⟩

theorem sfind_put (sb ib:Nat)(r:Rec)(hb1:0≤r.bot)(hb2:r.bot≤255)(n:Int)(ab:Nat)(w:World)
  (c0:w.cell? ⟨sb,0,none⟩=some (.int .i64 n)) (c1:w.cell? ⟨sb,1,none⟩=some (.pointer (some ⟨ab,0,none⟩))) (c2:w.cell? ⟨sb,2,none⟩=some (.pointer (some ⟨ib,0,none⟩)))
  (hg:∀ W,Keeps w W→Calls Tryz.prog 128 #[.pointer (some ⟨ib,0,none⟩),.agg #[.int .u8 r.form,.int .u8 r.top,.int .u8 r.bot,.int .u8 r.lo.tag,.int .u32 r.lo.to,.int .u8 r.hi.tag,.int .u32 r.hi.to]] W fun e w'=>e=.returned (.tuple #[.int .u32 0,.bool false])∧Keeps W w')
  (hr:∀ W,Calls Tryz.prog 129 #[.agg #[.int .u8 r.form,.int .u8 r.top,.int .u8 r.bot,.int .u8 r.lo.tag,.int .u32 r.lo.to,.int .u8 r.hi.tag,.int .u32 r.hi.to],.int .i64 n] W fun e w'=>e=.returned (.bool true)∧Keeps W w')
  (hlo:∀ W,Keeps w W→Calls Tryz.prog 130 #[.pointer (some ⟨sb,0,none⟩),.int .u8 r.form,.agg #[.int .u8 r.lo.tag,.int .u32 r.lo.to],.int .i64 (r.bot+1)] W fun e w'=>e=.returned (.bool true)∧Keeps W w')
  (hhi:∀ W,Keeps w W→Calls Tryz.prog 130 #[.pointer (some ⟨sb,0,none⟩),.int .u8 r.form,.agg #[.int .u8 r.hi.tag,.int .u32 r.hi.to],.int .i64 (r.bot+1)] W fun e w'=>e=.returned (.bool true)∧Keeps W w')
  (id:Int) (Fa Fi:Nat→Prop) (ha:∀ k,Fa k→k<w.heap.size) (hi:∀ k,Fi k→k<w.heap.size) (has:¬Fa sb) (his:¬Fi sb) (R1 R2:World→World→Prop)
  (hp:∀ W,Keeps w W→Calls Tryz.prog 131 #[.pointer (some ⟨ab,0,none⟩),.agg #[.int .u8 r.form,.int .u8 r.top,.int .u8 r.bot,.int .u8 r.lo.tag,.int .u32 r.lo.to,.int .u8 r.hi.tag,.int .u32 r.hi.to]] W fun e w'=>e=.returned (.tuple #[.int .u32 id,.bool true])∧Upd Fa W w'∧R1 W w')
  (hq:∀ W W1 W2,Keeps w W→Upd Fa W W1→R1 W W1→Keeps W1 W2→Calls Tryz.prog 132 #[.pointer (some ⟨ib,0,none⟩),.agg #[.int .u8 r.form,.int .u8 r.top,.int .u8 r.bot,.int .u8 r.lo.tag,.int .u32 r.lo.to,.int .u8 r.hi.tag,.int .u32 r.hi.to],.int .u32 id] W2 fun e w'=>e=.returned (.tuple #[.int .u32 0,.bool false])∧Upd Fi W2 w'∧R2 W2 w') :
  Calls Tryz.prog 64 #[.pointer (some ⟨sb,0,none⟩),.agg #[.int .u8 r.form,.int .u8 r.top,.int .u8 r.bot,.int .u8 r.lo.tag,.int .u32 r.lo.to,.int .u8 r.hi.tag,.int .u32 r.hi.to]] w fun e w'=>e=.returned (.tuple #[.int .u32 id,.int .u8 0]) ∧
   ∃ W W1 W2,Keeps w W∧Upd Fa W W1∧R1 W W1∧Keeps W1 W2∧Upd Fi W2 w'∧R2 W2 w':=by
 have Hp:=Lib.hid hp
 have Hq:=Lib.hid hq
 have HA:=Lib.hid ha
 have HS:=Lib.hid has
 have HI:=Lib.hid hi
 have HJ:=Lib.hid his
 clear hp hq ha hi has his
 have hsb:sb<w.heap.size:=lt_of_cell c0
 have Hg:=Lib.hid hg
 have Hr:=Lib.hid hr
 have Hlo:=Lib.hid hlo
 have Hhi:=Lib.hid hhi
 clear hg hr hlo hhi
 go_enter Tryz.func64,Tryz.ntmps64
 go_wp2_with fail
 go_region_held3 (fun w'=>w'.cell? ⟨sb,2,none⟩=some (.pointer (some ⟨ib,0,none⟩))∧(w'.cell? ⟨w.heap.size,0,none⟩=some (.int .u8 r.form)∧w'.cell? ⟨w.heap.size,1,none⟩=some (.int .u8 r.top)∧w'.cell? ⟨w.heap.size,2,none⟩=some (.int .u8 r.bot)∧w'.cell? ⟨w.heap.size,3,none⟩=some (.int .u8 r.lo.tag)∧w'.cell? ⟨w.heap.size,4,none⟩=some (.int .u32 r.lo.to)∧w'.cell? ⟨w.heap.size,5,none⟩=some (.int .u8 r.hi.tag)∧w'.cell? ⟨w.heap.size,6,none⟩=some (.int .u32 r.hi.to))) (go_keep) ((first|(go_at_call 128;refine(Hg.out _ (by(exact kp))).mono ?_;rintro e w1 ⟨rfl,hb⟩;have hwb:Keeps (w.alloc (.cells #[.int .u8 r.form,.int .u8 r.top,.int .u8 r.bot,.int .u8 r.lo.tag,.int .u32 r.lo.to,.int .u8 r.hi.tag,.int .u32 r.hi.to] 125)) w1:=(by(exact kp));obtain⟨y0,y1,y2,y3,y4,y5,y6⟩:=box7 hwb;have hk:Keeps w w1:=(((Keeps.refl _).alloc _).trans hwb);have hsz:=hwb.size;simp only [World.size_alloc] at hsz;have d0:=hk.cell c0;have d1:=hk.cell c1;have d2:=hk.cell c2)))
 go_wp2_with fail
 have d0k:=KWorld.cell d0
 have y0k:=KWorld.cell y0
 have y1k:=KWorld.cell y1
 have y2k:=KWorld.cell y2
 have y3k:=KWorld.cell y3
 have y4k:=KWorld.cell y4
 have y5k:=KWorld.cell y5
 have y6k:=KWorld.cell y6
 refine wp_region_keeps (w1) (by kernel_rfl) (by kernel_rfl) (by(exact kp)) ?_;(repeat (go_big_quiet_step ((first|(go_at_call 129;refine Calls.keepsK (Hr.out _))|(go_at_call 130;with_reducible refine Calls.keepsK (Hlo.out _ (hk.trans (KWorld.keep _))))|(go_at_call 130;with_reducible refine Calls.keepsK (Hhi.out _ (hk.trans (KWorld.keep _))))))));refine wpQuiet_nil ?_;rintro wq ⟨⟨_,hkq⟩,rfl⟩;try dsimp only
 go_wp2_with fail
 have hkw:Keeps w wq:=hk.trans hkq
 have d1k:=hkq.cell d1
 have d2k:=hkq.cell d2
 obtain⟨z0,z1,z2,z3,z4,z5,z6⟩:=hkq.cell7 ⟨y0,y1,y2,y3,y4,y5,y6⟩
 clear d0k y0k y1k y2k y3k y4k y5k y6k hb
 have hbw:w.heap.size<wq.heap.size:=by have:=hkq.size;omega
 have hsq:sb<wq.heap.size:=by have:=hkq.size;omega
 have hnb:¬Fa w.heap.size:=fun h=>by have:=HA.out _ h;omega
 have hnc:¬Fi w.heap.size:=fun h=>by have:=HI.out _ h;omega
 clear hsz
 go_region_held3 (fun w'=>w'.cell? ⟨sb,1,none⟩=some (.pointer (some ⟨ab,0,none⟩))∧(w'.cell? ⟨w.heap.size,0,none⟩=some (.int .u8 r.form)∧w'.cell? ⟨w.heap.size,1,none⟩=some (.int .u8 r.top)∧w'.cell? ⟨w.heap.size,2,none⟩=some (.int .u8 r.bot)∧w'.cell? ⟨w.heap.size,3,none⟩=some (.int .u8 r.lo.tag)∧w'.cell? ⟨w.heap.size,4,none⟩=some (.int .u32 r.lo.to)∧w'.cell? ⟨w.heap.size,5,none⟩=some (.int .u8 r.hi.tag)∧w'.cell? ⟨w.heap.size,6,none⟩=some (.int .u32 r.hi.to))) (go_keep) ((first|(go_at_call 131;refine(Hp.out _ (by(exact kp))).mono ?_;rintro e w2 ⟨rfl,hu,hR1⟩;have e1:=hu.cell (a:=⟨sb,1,none⟩) HS.out d1k;have e2:=hu.cell (a:=⟨sb,2,none⟩) HS.out d2k;obtain⟨x0,x1,x2,x3,x4,x5,x6⟩:=hu.cell7 hnb ⟨z0,z1,z2,z3,z4,z5,z6⟩)))
 go_wp2_with fail
 go_region_held3 (fun w'=>w'.cell? ⟨sb,2,none⟩=some (.pointer (some ⟨ib,0,none⟩))∧(w'.cell? ⟨w.heap.size,0,none⟩=some (.int .u8 r.form)∧w'.cell? ⟨w.heap.size,1,none⟩=some (.int .u8 r.top)∧w'.cell? ⟨w.heap.size,2,none⟩=some (.int .u8 r.bot)∧w'.cell? ⟨w.heap.size,3,none⟩=some (.int .u8 r.lo.tag)∧w'.cell? ⟨w.heap.size,4,none⟩=some (.int .u32 r.lo.to)∧w'.cell? ⟨w.heap.size,5,none⟩=some (.int .u8 r.hi.tag)∧w'.cell? ⟨w.heap.size,6,none⟩=some (.int .u32 r.hi.to))) (go_keep) ((first|(go_at_call 132;refine(Hq.out _ _ _ hkw.drew hu hR1 (by(exact kp))).mono ?_;rintro e w3 ⟨rfl,hu3,hR2⟩;have e3:=hu3.cell (a:=⟨sb,2,none⟩) HJ.out e2;obtain⟨v0,v1,v2,v3,v4,v5,v6⟩:=hu3.cell7 hnc ⟨x0,x1,x2,x3,x4,x5,x6⟩)))
 go_wp2
 go_ret2
 exact⟨rfl,_,_,_,hkw.drew,hu,hR1,(Keeps.refl _).drew,hu3,hR2⟩

theorem store_find {F:Nat→Prop}{w:World}{sb:Nat}{M:St}(h:StoreRep F w sb M)(r:Rec)(hr:r.ok) :
  Calls Tryz.prog 64 #[.pointer (some ⟨sb,0,none⟩),.agg #[.int .u8 r.form,.int .u8 r.top,.int .u8 r.bot,.int .u8 r.lo.tag,.int .u32 r.lo.to,.int .u8 r.hi.tag,.int .u32 r.hi.to]] w fun e w'=>
   e=.returned (.tuple #[.int .u32 (M.findId r),.int .u8 (M.findErr r)])∧Upd F w w'∧StoreRep (Grow F w w') w' sb (M.findSt r):=by
 have hlead:=fun(W:World) (hW:Keeps w W) (e:Edge) (he:e.ok)=>store_leads (h.keeps hW) r.form e (r.bot+1) he
 have hsame:∀ {e:Ending} {w':World} {i er:Int},M.findSt r=M→M.findId r=i→M.findErr r=er→e=.returned (.tuple #[.int .u32 i,.int .u8 er])∧Keeps w w' →
   e=.returned (.tuple #[.int .u32 (M.findId r),.int .u8 (M.findErr r)])∧Upd F w w'∧StoreRep (Grow F w w') w' sb (M.findSt r):=by
  intro e w' i er h1 h2 h3 ⟨h4,h5⟩
  rw [h1,h2,h3]
  have hk:=h.keeps h5
  obtain⟨⟨ab,ib,ts,Fa,Fi,q1,q2,q3,q4,q5,q6,q7,q8⟩,p1,p2,p3⟩:=hk
  refine⟨h4,h5.upd F,⟨⟨ab,ib,ts,Fa,Fi,q1,q2,q3,q4,q5,fun k hk=>.inl (q6 k hk),fun k hk=>.inl (q7 k hk),q8⟩,.inl p1,fun k hk=>?_,p3⟩⟩
  rcases hk with hk|hk
  ·exact p2 k hk
  ·exact hk.2
 have hwf:=h.wf
 have ho:∀ id,look M.cs id=some r↔M.idOf r=some id:=fun id=>idOf_iff h.once r id
 obtain⟨⟨ab,ib,ts,Fa,Fi,h1,h2,h3,h4,h5,h6,h7,h8,h9,h10⟩,a1,a2,a3⟩:=h
 have c0:w.cell? ⟨sb,0,none⟩=some (.int .i64 M.n):=by rw [cell_of_row w sb 0 _ _ _ h1];rfl
 have c1:w.cell? ⟨sb,1,none⟩=some (.pointer (some ⟨ab,0,none⟩)):=by rw [cell_of_row w sb 1 _ _ _ h1];rfl
 have c2:w.cell? ⟨sb,2,none⟩=some (.pointer (some ⟨ib,0,none⟩)):=by rw [cell_of_row w sb 2 _ _ _ h1];rfl
 have hg:∀ W,Keeps w W→Calls Tryz.prog 128 #[.pointer (some ⟨ib,0,none⟩),.agg #[.int .u8 r.form,.int .u8 r.top,.int .u8 r.bot,.int .u8 r.lo.tag,.int .u32 r.lo.to,.int .u8 r.hi.tag,.int .u32 r.hi.to]] W fun e w'=>e=.returned (.tuple #[.int .u32 ((M.idOf r).getD 0),.bool (M.idOf r).isSome])∧Keeps W w':=
  fun W hW=>index_get (h3.keeps hW) r hr (M.idOf r) (fun id=>(h5 r id).trans (ho id))
 have hb1:=hr.bot.1
 have hb2:=hr.bot.2
 have hright:=fun W=>right_calls r hr M.n W
 cases hi:M.idOf r with
 | some id=>
  rw [hi] at hg
  refine(sfind_old sb ib r id M.n _ w c0 c1 c2 hg).mono fun e w' he=>?_
  exact hsame (by unfold St.findSt;rw [hi]) (by unfold St.findId;rw [hi]) (by unfold St.findErr;rw [hi]) he
 | none=>
  rw [hi] at hg
  have hlo:=fun W hW=>hlead W hW r.lo hr.lo
  have hhi:=fun W hW=>hlead W hW r.hi hr.hi
  cases hbad:M.bad r with
  | true=>
   have fin:∀ {e:Ending} {w':World},e=.returned (.tuple #[.int .u32 0,.int .u8 1])∧Keeps w w'→e=.returned (.tuple #[.int .u32 (M.findId r),.int .u8 (M.findErr r)])∧Upd F w w'∧StoreRep (Grow F w w') w' sb (M.findSt r):=
    hsame (by unfold St.findSt;rw [hi,hbad];rfl) (by unfold St.findId;rw [hi,hbad];rfl) (by unfold St.findErr;rw [hi,hbad];rfl)
   unfold St.bad at hbad
   cases hR:rightB r M.n with
   | false=>
    rw [hR] at hright
    exact(sfind_bad1 sb ib r hb1 hb2 M.n _ w c0 c1 c2 hg hright).mono fun e w' he=>fin he
   | true=>
    rw [hR] at hright hbad
    cases hL:M.leads r.form r.lo (r.bot+1) with
    | false=>
     rw [hL] at hlo
     exact(sfind_bad2 sb ib r hb1 hb2 M.n _ w c0 c1 c2 hg hright hlo).mono fun e w' he=>fin he
    | true=>
     rw [hL] at hlo hbad
     have hH:M.leads r.form r.hi (r.bot+1)=false:=by simpa using hbad
     rw [hH] at hhi
     exact(sfind_bad3 sb ib r hb1 hb2 M.n _ w c0 c1 c2 hg hright hlo hhi).mono fun e w' he=>fin he
  | false=>
   have hb:=hbad
   unfold St.bad at hb
   simp only [Bool.or_eq_false_iff,Bool.not_eq_false'] at hb
   rw [hb.1.1] at hright
   rw [hb.1.2] at hlo
   rw [hb.2] at hhi
   by_cases hfull:M.room≤M.len
   ·refine(sfind_full sb ib r hb1 hb2 M.n ab w c0 c1 c2 hg hright hlo hhi (fun W hW=>arena_put_full (h2.keeps hW) r hfull)).mono fun e w' he=>?_
    exact hsame (by unfold St.findSt;rw [hi,hbad];simp [hfull]) (by unfold St.findId;rw [hi,hbad];simp [hfull]) (by unfold St.findErr;rw [hi,hbad];simp [hfull]) he
   ·have hroom:M.len<M.room:=by omega
    have e1:M.findSt r=M.add r:=by unfold St.findSt;rw [hi,hbad];simp [hfull,St.add]
    have e2:M.findId r=putId M.gone M.cs.length:=by unfold St.findId;rw [hi,hbad];simp [hfull]
    have e3:M.findErr r=0:=by unfold St.findErr;rw [hi,hbad];simp [hfull]
    obtain⟨p1,p2,p3⟩:=putId_range hwf.gone
    have hfew:=h2.few
    have hl1:=hwf.room1
    have hl0:=hwf.len0
    have hno:∀ id',¬Tab.has ts r id':=fun id' hh=>by
     have:=(ho id').1 ((h5 r id').1 hh)
     rw [hi] at this
     cases this
    refine(sfind_put sb ib r hb1 hb2 M.n ab w c0 c1 c2 hg hright hlo hhi (putId M.gone M.cs.length) Fa Fi (fun k hk=>a2 k (h6 k hk)) (fun k hk=>a2 k (h7 k hk)) h9 h10
     (fun W W1=>ArenaRep (Grow Fa W W1) W1 ab (putCs M.cs M.gone r) M.gone.dropLast (M.len+1) M.room)
     (fun W W1=>∃ ts',IndexRep (Grow Fi W W1) W1 ib ts' (M.len+1)∧M.len+1=(occ ts':Int)∧∀ r' id',Tab.has ts' r' id'↔(r'=r∧id'=putId M.gone M.cs.length)∨Tab.has ts r' id')
     (fun W hW=>arena_put (h2.keeps hW) r hr hroom) (fun W W1 W2 k1 u1 r1 k2=>?_)).mono ?_
    ·have hidx:=((h3.keeps k1).keep u1 (fun k hk hk'=>h8 k hk' hk)).keeps k2
     exact index_put hidx h4 (by omega) r hr _ (by omega) (by omega) hno
    ·rintro e w' ⟨rfl,W,W1,W2,k1,u1,r1,k2,u2,ts',i1,i2,i3⟩
     rw [e1,e2,e3]
     have s1:=k1.size
     have s2:=u1.size
     have s3:=k2.size
     have s4:=u2.size
     have uF:Upd F w w':=((((k1.upd F).trans' (u1.mono (fun k _ hk=>h6 k hk))).trans' (k2.upd F)).trans' (u2.mono (fun k _ hk=>h7 k hk)))
     have hai:∀ k,Grow Fa W W1 k→¬Fi k:=fun k hk hk'=>by
      rcases hk with hk|hk
      ·exact h8 k hk hk'
      ·have:=a2 k (h7 k hk')
       omega
     refine⟨rfl,uF,⟨⟨ab,ib,ts',Grow Fa W W1,Grow Fi W2 w',?_,?_,?_,?_,?_,?_,?_,?_,?_,?_⟩,.inl a1,?_,?_⟩⟩
     ·have hs:=lt_of_heap h1
      show w'.heap[sb]?=some (.cells #[.int .i64 M.n,_,_] _ _)
      rw [u2.block sb (by omega) h10,k2.block sb (by omega),u1.block sb (by omega) h9,k1.block sb hs]
      exact h1
     ·rw [M.len_add r]
      exact(r1.keeps k2).keep u2 hai
     ·rw [M.len_add r]
      exact i1
     ·rw [M.len_add r]
      exact i2
     ·intro r' id'
      rw [i3,hwf.look_add r id' r',h5]
      constructor
      ·rintro(⟨q1,q2⟩|q)
       ·exact .inl ⟨q2,q1⟩
       ·exact .inr q
      ·rintro(⟨q1,q2⟩|q)
       ·exact .inl ⟨q2,q1⟩
       ·exact .inr q
     ·intro k hk
      rcases hk with hk|hk
      ·exact .inl (h6 k hk)
      ·exact .inr ⟨by omega,by omega⟩
     ·intro k hk
      rcases hk with hk|hk
      ·exact .inl (h7 k hk)
      ·exact .inr ⟨by omega,by omega⟩
     ·intro k hk hk'
      rcases hk' with hk'|hk'
      ·exact hai k hk hk'
      ·rcases hk with hk|hk
       ·have:=a2 k (h6 k hk)
        omega
       ·omega
     ·rintro(hk|hk)
      ·exact h9 hk
      ·have:=lt_of_heap h1
       omega
     ·rintro(hk|hk)
      ·exact h10 hk
      ·have:=lt_of_heap h1
       omega
     ·intro k hk
      rcases hk with hk|hk
      ·have:=a2 k hk
       omega
      ·exact hk.2
     ·exact hwf.add hi hbad hroom

def St.new (n room:Int):St:=⟨[],[],n,room⟩

theorem look_nil (id:Int):look [] id=none:=by unfold look;split<;>simp

theorem St.new_wf {n room:Int}(h0:0≤n)(h1:n≤16)(h2:0≤room)(h3:room≤1048576):(St.new n room).wf:=
 ⟨h0,h1,fun id hid=>by simp [St.new] at hid,by simp [St.new],fun id r hl=>by simp [St.new,look_nil] at hl,fun r id id' hl=>by simp [St.new,look_nil] at hl,by simp [St.len,St.new],h2,h3,by simp [St.len,St.new];exact h2⟩

theorem store_new (n room:Int)(w:World)(h0:0≤n)(h1:n≤16)(h2:0≤room)(h3:room≤1048576) :
  Calls Tryz.prog 63 #[.int .i64 n,.int .i64 room] w fun e w'=>∃ sb F,e=.returned (.tuple #[.pointer (some ⟨sb,0,none⟩),.int .u8 0])∧Keeps w w'∧(∀ k,F k→w.heap.size≤k)∧StoreRep F w' sb (St.new n room):=by
 go_enter Tryz.func63,Tryz.ntmps63
 go_wp2_with (first|(go_at_call 126;refine(arena_new _ _ h2 h3).mono ?_;rintro e w' ⟨rfl,rfl⟩)|(go_at_call 127;refine(index_new _).mono ?_;rintro e w1 ⟨ib,rfl,hib,hk,hI⟩))
 go_ret2
 refine⟨w1.heap.size,fun k=>w.heap.size≤k∧k<w1.heap.size+1,rfl,(((Keeps.refl w).alloc _).trans hk).alloc _,fun k hk=>hk.1,?_⟩
 have hs:=hk.size
 simp only [World.size_alloc] at hs hib
 have ha:(w1.alloc (.cells #[.int .i64 n,.pointer (some ⟨w.heap.size,0,none⟩),.pointer (some ⟨ib,0,none⟩)] 189)).heap[w.heap.size]?=some (.cells #[.slice none 0 0,.slice none 0 0,.int .i64 0,.int .i64 room] 243 (0,0)):=
  (Keeps.alloc (Keeps.refl w1) _).heap (hk.heap (heap_alloc_new w _))
 refine⟨⟨w.heap.size,ib,List.replicate 8 none,fun k=>k=w.heap.size,fun k=>(w.alloc (.cells #[.slice none 0 0,.slice none 0 0,.int .i64 0,.int .i64 room] 243)).heap.size≤k∧k<w1.heap.size,heap_alloc_new w1 _,?_,?_,?_,?_,?_,?_,?_,?_,?_⟩,?_,?_,St.new_wf h0 h1 h2 h3⟩
 ·refine⟨⟨_,_,ha,?_,?_,?_,?_⟩,rfl,by simp [St.new],by simp [St.new,St.len],by simp [St.new,St.len],h3,fun id hid=>by simp [St.new] at hid,fun r hr=>by simp [St.new] at hr⟩
  ·exact World.ownsRow_nil _ _ _ _
  ·exact World.ownsRow_nil _ _ _ _
  ·intro k hk;simp [Value.ownBlock] at hk
  ·intro k hk;simp [Value.ownBlock] at hk
 ·exact hI.keeps ((Keeps.refl w1).alloc _)
 ·rw [(TabOk.empty homeN 8).2.1];rfl
 ·intro r id
  rw [show look (St.new n room).cs id=none from look_nil id]
  constructor
  ·intro hh;exact((TabOk.empty homeN 8).2.2 r id hh).elim
  ·intro hh;cases hh
 ·intro k hk;omega
 ·intro k hk;simp only [World.size_alloc] at hk;omega
 ·intro k hk hk';simp only [World.size_alloc] at hk';omega
 ·omega
 ·omega
 ·omega
 ·intro k hk;rw [World.size_alloc];exact hk.2

end Go.Proofs.YtpgcbmbnognieaaGreat
