/-
  meter.Depth, meter.Ways over the state.
-/
import Derived.Test.YtpgcbmbnognieaaGreatPBuildW
import Derived.Test.YtpgcbmbnognieaaGreatPMCount
import Derived.Test.YtpgcbmbnognieaaGreatPRDeep
namespace Go.Proofs.YtpgcbmbnognieaaGreat
set_option linter.unusedSimpArgs false
set_option linter.unusedVariables false
set_option maxHeartbeats 600000
open Go.RowKit

variable {F:Nat → Prop} {sb:Nat} {M:St} {w:World}

theorem pair_fst (a b:Int) (w:World):(Instr.index 154 (.agg #[.int .i64 a,.int .i64 b]) (.int .i64 0)).run Tryz.prog w=.ok (.int .i64 a) w:=by kernel_rfl

theorem pair_snd (a b:Int) (w:World):(Instr.index 154 (.agg #[.int .i64 a,.int .i64 b]) (.int .i64 1)).run Tryz.prog w=.ok (.int .i64 b) w:=by kernel_rfl

theorem mdepth_no (h:StoreRep F w sb M) (f:Int) (v:Edge) (hv:v.ok) (hc:mayC M f v 0 ≠ 0) :
  Calls Tryz.prog 22 #[.pointer (some ⟨sb,0,none⟩),.int .u8 f,.agg #[.int .u8 v.tag,.int .u32 v.to]] w fun e w'=>e=.returned (.tuple #[.int .i64 0,.int .u8 (mayC M f v 0)]) ∧ Keeps w w':=by
 have HM:=Lib.hid (fun (W:World) (hW:Keeps w W)=>mmay_calls (h.keeps hW) f v hv)
 have hr:=mayC_range M f v 0
 obtain ⟨c,hc2⟩:∃ c,c=mayC M f v 0:=⟨_,rfl⟩
 rw [← hc2] at HM hc hr ⊢
 have g0:(c == 0)=false:=by simp [hc]
 clear h hc hc2
 go_enter Tryz.func22,Tryz.ntmps22
 go_wp2_with (first
  | (go_at_call 66;refine (HM.out _ (by (exact kp))).mono ?_;rintro e w1 ⟨rfl,hk1⟩;have kk1:Keeps w w1:=(by (exact kp)))
  | fail)
 go_ret2
 exact ⟨rfl,kk1⟩

theorem mways_no (h:StoreRep F w sb M) (f:Int) (v:Edge) (hv:v.ok) (hc:mayC M f v 0 ≠ 0) :
  Calls Tryz.prog 23 #[.pointer (some ⟨sb,0,none⟩),.int .u8 f,.agg #[.int .u8 v.tag,.int .u32 v.to]] w fun e w'=>e=.returned (.tuple #[.int .i64 0,.int .u8 (mayC M f v 0)]) ∧ Keeps w w':=by
 have HM:=Lib.hid (fun (W:World) (hW:Keeps w W)=>mmay_calls (h.keeps hW) f v hv)
 have hr:=mayC_range M f v 0
 obtain ⟨c,hc2⟩:∃ c,c=mayC M f v 0:=⟨_,rfl⟩
 rw [← hc2] at HM hc hr ⊢
 have g0:(c == 0)=false:=by simp [hc]
 clear h hc hc2
 go_enter Tryz.func23,Tryz.ntmps23
 go_wp2_with (first
  | (go_at_call 66;refine (HM.out _ (by (exact kp))).mono ?_;rintro e w1 ⟨rfl,hk1⟩;have kk1:Keeps w w1:=(by (exact kp)))
  | fail)
 go_ret2
 exact ⟨rfl,kk1⟩

theorem from_fresh (h:StoreRep F w sb M) (f:Int) (v:Edge) (hv:v.ok) {n:Nat} (hn:M.n=(n:Int)) (h8:n ≤ 8) (hm:mayC M f v 0=0) (w1:World) (hk:Keeps w w1) :
  Calls Tryz.prog 85 #[.pointer (some ⟨w1.heap.size + 1,0,none⟩),.agg #[.int .u8 v.tag,.int .u32 v.to]] ((w1.alloc (.map #[] 0)).alloc (.cells #[.pointer (some ⟨sb,0,none⟩),.map (some w1.heap.size)] 153))
   fun e w'=>e=.returned (.agg #[.int .i64 (dS M v.to),.int .i64 (wS M v.to)]) ∧ Keeps w w':=by
 obtain ⟨hf,hld⟩:=mayC_zero hm
 have hkc:Keeps w ((w1.alloc (.map #[] 0)).alloc (.cells #[.pointer (some ⟨sb,0,none⟩),.map (some w1.heap.size)] 153)):=(hk.alloc _).alloc _
 have hsz:=hk.size
 have hC:DCtx F (w1.heap.size + 1) sb w1.heap.size M ((w1.alloc (.map #[] 0)).alloc (.cells #[.pointer (some ⟨sb,0,none⟩),.map (some w1.heap.size)] 153)) []:=by
  refine ⟨h.keeps hkc,by simp [go_sem],by simp [go_sem],⟨.map [],?_,Maps.isMap_empty,fun x=>by simp [Maps.has_eq],fun x hx=>by simp at hx⟩,fun hh=>by have:=h.lt _ hh;omega⟩
  have:=(World.ownsMap_made (H:=Value) w1 Tryz.prog 23 heldElem).alloc (.cells #[.pointer (some ⟨sb,0,none⟩),.map (some w1.heap.size)] 153)
  simpa using this
 have hp8:2 ^ n ≤ 2 ^ 8:=Nat.pow_le_pow_right (by decide) h8
 have hp8':(2:Nat) ^ 8=256:=rfl
 refine (from_all (fun id r hk=>h.fit hk) h.wf hn h8 n 0 v _ [] (by omega) (Nat.zero_le _) hv (by have:=down_leads hv hld;exact this) hC (by simp;omega)).mono ?_
 rintro e w' ⟨rfl,hu,-,-⟩
 exact ⟨rfl,hkc.new hu (fun k hk=>by omega)⟩

set_option maxRecDepth 100000 in
theorem mdepth_calls (h:StoreRep F w sb M) (f:Int) (v:Edge) (hv:v.ok) {n:Nat} (hn:M.n=(n:Int)) (h8:n ≤ 8) (hm:mayC M f v 0=0) :
  Calls Tryz.prog 22 #[.pointer (some ⟨sb,0,none⟩),.int .u8 f,.agg #[.int .u8 v.tag,.int .u32 v.to]] w fun e w'=>e=.returned (.tuple #[.int .i64 (dS M v.to),.int .u8 0]) ∧ Keeps w w':=by
 have HM:=Lib.hid (fun (W:World) (hW:Keeps w W)=>mmay_calls (h.keeps hW) f v hv)
 rw [hm] at HM
 have HF:=Lib.hid (from_fresh h f v hv hn h8 hm)
 have hmm:=@run_makeMap Tryz.prog
 have hp1:=pair_fst (dS M v.to) (wS M v.to)
 have hp2:=pair_snd (dS M v.to) (wS M v.to)
 clear h hn hm
 go_enter Tryz.func22,Tryz.ntmps22
 go_wp2_with (first
  | (go_at_call 66;refine (HM.out _ (by (exact kp))).mono ?_;rintro e w1 ⟨rfl,hk1⟩;have z0:=hk1.cell (a:=⟨w.heap.size,0,none⟩) (v:=.int .u8 v.tag) (by simp [go_sem]);have z1:=hk1.cell (a:=⟨w.heap.size,1,none⟩) (v:=.int .u32 v.to) (by simp [go_sem]);have kk1:Keeps w w1:=(by (exact kp));have hzl:=lt_of_cell z0)
  | (go_at_call 85;refine (HF.out _ kk1).mono ?_;rintro e w2 ⟨rfl,hk2⟩)
  | fail)
 go_ret2
 exact ⟨rfl,hk2⟩

set_option maxRecDepth 100000 in
theorem mways_calls (h:StoreRep F w sb M) (f:Int) (v:Edge) (hv:v.ok) {n:Nat} (hn:M.n=(n:Int)) (h8:n ≤ 8) (hm:mayC M f v 0=0) :
  Calls Tryz.prog 23 #[.pointer (some ⟨sb,0,none⟩),.int .u8 f,.agg #[.int .u8 v.tag,.int .u32 v.to]] w fun e w'=>e=.returned (.tuple #[.int .i64 (wS M v.to),.int .u8 0]) ∧ Keeps w w':=by
 have HM:=Lib.hid (fun (W:World) (hW:Keeps w W)=>mmay_calls (h.keeps hW) f v hv)
 rw [hm] at HM
 have HF:=Lib.hid (from_fresh h f v hv hn h8 hm)
 have hmm:=@run_makeMap Tryz.prog
 have hp1:=pair_fst (dS M v.to) (wS M v.to)
 have hp2:=pair_snd (dS M v.to) (wS M v.to)
 clear h hn hm
 go_enter Tryz.func23,Tryz.ntmps23
 go_wp2_with (first
  | (go_at_call 66;refine (HM.out _ (by (exact kp))).mono ?_;rintro e w1 ⟨rfl,hk1⟩;have z0:=hk1.cell (a:=⟨w.heap.size,0,none⟩) (v:=.int .u8 v.tag) (by simp [go_sem]);have z1:=hk1.cell (a:=⟨w.heap.size,1,none⟩) (v:=.int .u32 v.to) (by simp [go_sem]);have kk1:Keeps w w1:=(by (exact kp));have hzl:=lt_of_cell z0)
  | (go_at_call 85;refine (HF.out _ kk1).mono ?_;rintro e w2 ⟨rfl,hk2⟩)
  | fail)
 go_ret2
 exact ⟨rfl,hk2⟩

variable {F:Nat → Prop} {mb:Nat} {M:St} {L:List (Int × Rec)}

theorem refl_ok {w:World} (h:RefRep F w mb M L):∀ id r,look M.cs id=some r → r.ok:=fun id r hk=>h.fit _ ((h.mem id r).2 hk)

theorem rdeep_all (hok:∀ id r,look M.cs id=some r → r.ok) (hwf:M.wf) {n:Nat} (hn:M.n=(n:Int)) (h8:n ≤ 8):∀ (K l:Nat) (e:Edge) (w:World),n - l ≤ K → l ≤ n → e.ok → Down M (l:Int) e.to → RefRep F w mb M L →
  Calls Tryz.prog 29 #[.pointer (some ⟨mb,0,none⟩),.agg #[.int .u8 e.tag,.int .u32 e.to]] w (fun e' w'=>e'=.returned (.int .i64 (dS M e.to)) ∧ Keeps w w') ∧
  Calls Tryz.prog 30 #[.pointer (some ⟨mb,0,none⟩),.agg #[.int .u8 e.tag,.int .u32 e.to]] w (fun e' w'=>e'=.returned (.int .i64 (wS M e.to)) ∧ Keeps w w'):=by
 have hok2:∀ id r,look M.cs id=some r → r.lo.ok ∧ r.hi.ok:=fun id r hk=>⟨(hok id r hk).lo,(hok id r hk).hi⟩
 have hlow:∀ (e:Edge) (w:World),e.ok → 0 ≤ e.to ∧ e.to < 2 → RefRep F w mb M L →
  Calls Tryz.prog 29 #[.pointer (some ⟨mb,0,none⟩),.agg #[.int .u8 e.tag,.int .u32 e.to]] w (fun e' w'=>e'=.returned (.int .i64 (dS M e.to)) ∧ Keeps w w') ∧
  Calls Tryz.prog 30 #[.pointer (some ⟨mb,0,none⟩),.agg #[.int .u8 e.tag,.int .u32 e.to]] w (fun e' w'=>e'=.returned (.int .i64 (wS M e.to)) ∧ Keeps w w'):=fun e w he h2 h=>by
  rw [show dS M e.to=0 from depthS_none (look_low h2.2) _,show wS M e.to=e.to from waysS_low h2.2 _]
  exact ⟨rdepth_none h e he (look_low h2.2),rways_none h e he (look_low h2.2)⟩
 intro K
 induction K with
 | zero=>
  intro l e w hK hln he hd h
  rcases hd.2 with h2 | ⟨r,hk,ht⟩
  ·exact hlow e w he h2 h
  ·have:=(hwf.goodRec hk).tb
   have:=(hwf.goodRec hk).bn
   omega
 | succ K ih=>
  intro l e w hK hln he hd h
  rcases hd.2 with h2 | ⟨r,hk,ht⟩
  ·exact hlow e w he h2 h
  ·have g:=hwf.goodRec hk
   have g1:=g.tb
   have g2:=g.bn
   obtain ⟨b,hb⟩:∃ b:Nat,(b:Int)=r.bot:=⟨r.bot.toNat,by omega⟩
   obtain ⟨d0,d1⟩:=down_sides hwf hk (hok2 _ _ hk)
   rw [← hb] at d0 d1
   obtain ⟨v1,v2⟩:=dS_node hwf hok2 hk (hok _ _ hk).top.1
   have q0:=dS_range hwf hok2 (by omega) d0 (by omega)
   have q1:=dS_range hwf hok2 (by omega) d1 (by omega)
   have i0:=fun (W:World) (hW:Keeps w W)=>ih (b + 1) r.lo W (by omega) (by omega) (hok2 _ _ hk).1 (by push_cast;exact d0) (h.keeps hW)
   have i1:=fun (W:World) (hW:Keeps w W)=>ih (b + 1) r.hi W (by omega) (by omega) (hok2 _ _ hk).2 (by push_cast;exact d1) (h.keeps hW)
   exact ⟨rdepth_node h e he r hk _ _ _ v1 q0.1 q1.1 (fun W hW=>(i0 W hW).1) (fun W hW=>(i1 W hW).1),rways_node h e he r hk _ _ _ v2 q0.2 q1.2 (fun W hW=>(i0 W hW).2) (fun W hW=>(i1 W hW).2)⟩

set_option maxRecDepth 100000 in
theorem buildOf_calls {F Fo:Nat → Prop} {w:World} {sb ob:Nat} {M:St} {ps ws:List Int} (h:StoreRep F w sb M) (ho:OrdRep Fo w ob ps) (hd:∀ k,F k → ¬ Fo k) (hn:M.n=(ps.length:Int)) (f:Int) (hf:isFormB f=true)
  (aw:Option Addr) (len cap:Nat) (hl:ws.length=len) (hl2:len ≤ 1048576) (hW:WordsAt w aw ws) (hnw:∀ b off,aw=some ⟨b,off,none⟩ → ¬ F b) (hok:setOkB (ps.length:Int) ws=true) (hroom:M.len + ((2 ^ ps.length - 1:Nat):Int) ≤ M.room) :
  Calls Tryz.prog 90 #[.pointer (some ⟨sb,0,none⟩),.pointer (some ⟨ob,0,none⟩),.int .u8 f,.agg #[.int .i64 (ps.length:Int),.slice aw len cap]] w (BldOut f F w sb M (hasB ws) ps 0 0):=by
 have hp:=permB_iff.1 ho.perm
 have hmy:=fun (W:World) (hk:Keeps w W)=>buildMay_calls (h.keeps hk) (ho.keeps hk) hn f hf
 have hw0:0 < ws.length:=by have:=(setOkB_iff.1 hok).2.1;omega
 have hfr:=fun (W:World) (bb:Nat) (hk:Keeps w W) (hb:w.heap.size ≤ bb) (c0:W.cell? ⟨bb,0,none⟩=some (.pointer (some ⟨sb,0,none⟩))) (c1:W.cell? ⟨bb,1,none⟩=some (.pointer (some ⟨ob,0,none⟩))) (c2:W.cell? ⟨bb,2,none⟩=some (.int .u8 f)) (c3:W.cell? ⟨bb,3,none⟩=some (.int .i64 (ps.length:Int))) (c4:W.cell? ⟨bb,4,none⟩=some (.slice aw len cap))=>by
  have hnb:¬ F bb:=fun hh=>by have:=h.lt _ hh;omega
  have hctx:BCtx F Fo W sb ob bb f ps.length ps ws aw len cap:=⟨c0,c1,c2,c3,c4,hnb,hW.keeps hk,hnw,ho.keeps hk,fun k h1 h2=>hd k h2 h1⟩
  have:=bfrom_calls f hf hl hl2 hok rfl hp.2.1 ps [] rfl F W M 0 (h.keeps hk) hctx (Nat.pow_pos (by decide)) hn hroom
  exact this
 have hvs:=fun (W:World) (hk:Keeps w W)=>store_vars (h.keeps hk)
 have hrt:=fun (W:World) (hk:Keeps w W)=>setRight_calls (ps.length:Int) aw len cap ws W hl hl2 (hW.keeps hk)
 rw [hok] at hrt
 rw [hn] at hvs
 have hlt:=h.lt
 have HLT:=Lib.hid hlt
 obtain ⟨n,hnn⟩:∃ n,n=ps.length:=⟨_,rfl⟩
 rw [← hnn] at hfr hvs hrt ⊢
 have HMY:=Lib.hid hmy
 have HFR:=Lib.hid hfr
 have HVS:=Lib.hid hvs
 have HRT:=Lib.hid hrt
 have n16:n ≤ 16:=by have:=hp.1;omega
 clear h ho hd hn hl hW hnw hok hroom hp hmy hw0 hfr hvs hrt hlt hnn
 go_enter Tryz.func90,Tryz.ntmps90
 go_wp2_with fail
 refine (HMY.out _ (by (exact kp))).mono ?_
 rintro r w1 ⟨rfl,hk1⟩
 have k0:=hk1.cell (a:=⟨w.heap.size,0,none⟩) (v:=.int .i64 (n:Int)) (by simp [go_sem])
 have k1:=hk1.cell (a:=⟨w.heap.size,1,none⟩) (v:=.slice aw len cap) (by simp [go_sem])
 have z0:=hk1.cell (a:=⟨w.heap.size + 1,0,none⟩) (v:=.int .u8 0) (by simp [go_sem])
 have z1:=hk1.cell (a:=⟨w.heap.size + 1,1,none⟩) (v:=.int .u32 0) (by simp [go_sem])
 have zf:=fun o:Nat=>hk1.frz (a:=⟨w.heap.size + 1,o,none⟩) (by simp) (by simp [go_sem])
 have s1:=hk1.size
 simp only [World.size_alloc] at s1
 have hkw:Keeps w w1:=(((Keeps.refl w).alloc _).alloc _).trans hk1
 go_wp2_with fail
 have HVs:=Lib.hid (fun (W:World) (hW:Keeps w1 W)=>HVS.out W (hkw.trans hW))
 have HRt:=Lib.hid (fun (W:World) (hW:Keeps w1 W)=>HRT.out W (hkw.trans hW))
 have k0k:=KWorld.cell k0
 have k1k:=KWorld.cell k1
 refine wp_region_keeps (w1) (by kernel_rfl) (by kernel_rfl) (by (exact kp)) ?_;(repeat (go_big_quiet_step ((first | (go_at_call 151;with_reducible refine Calls.keepsK (HRt.out _ (KWorld.keep _))) | (go_at_call 67;with_reducible refine Calls.sameK (HVs.out _ (KWorld.keep _)))))));refine wpQuiet_nil ?_;rintro wq ⟨⟨_,hkq⟩,rfl⟩;try dsimp only
 replace k0:=hkq.cell k0
 replace k1:=hkq.cell k1
 replace z0:=hkq.cell z0
 replace z1:=hkq.cell z1
 replace zf:=fun o:Nat=>hkq.frz (a:=⟨w.heap.size + 1,o,none⟩) (by dsimp only;omega) (zf o)
 have s2:=hkq.size
 have hkw2:=hkw.trans hkq
 clear k0k k1k
 go_wp2_with fail
 obtain ⟨W4,hW4⟩:∃ W4,W4=wq.alloc (.cells #[.pointer (some ⟨sb,0,none⟩),.pointer (some ⟨ob,0,none⟩),.int .u8 f,.int .i64 (n:Int),.slice aw len cap] 228):=⟨_,rfl⟩
 have k4:Keeps wq W4:=by rw [hW4];exact (Keeps.refl _).alloc _
 have hb0:W4.cell? ⟨wq.heap.size,0,none⟩=some (.pointer (some ⟨sb,0,none⟩)):=by rw [hW4];simp [go_sem]
 have hb1:W4.cell? ⟨wq.heap.size,1,none⟩=some (.pointer (some ⟨ob,0,none⟩)):=by rw [hW4];simp [go_sem]
 have hb2:W4.cell? ⟨wq.heap.size,2,none⟩=some (.int .u8 f):=by rw [hW4];simp [go_sem]
 have hb3:W4.cell? ⟨wq.heap.size,3,none⟩=some (.int .i64 (n:Int)):=by rw [hW4];simp [go_sem]
 have hb4:W4.cell? ⟨wq.heap.size,4,none⟩=some (.slice aw len cap):=by rw [hW4];simp [go_sem]
 have s4:W4.heap.size=wq.heap.size + 1:=by rw [hW4];simp
 rw [← hW4]
 clear hW4
 have y0:=k4.cell z0
 have y1:=k4.cell z1
 have yf:=fun o:Nat=>k4.frz (a:=⟨w.heap.size + 1,o,none⟩) (by dsimp only;omega) (zf o)
 refine (HFR.out W4 wq.heap.size (hkw2.trans k4) hkw2.size hb0 hb1 hb2 hb3 hb4).mono ?_
 rintro r w3 ⟨e,M',rfl,hok,hbt,hgr,hst⟩
 have nF:¬ F (w.heap.size + 1):=fun hf=>by have:=HLT.out _ hf;omega
 replace y0:=hst.cell nF y0
 replace y1:=hst.cell nF y1
 replace yf:=fun o:Nat=>hst.frz (b:=w.heap.size + 1) (o:=o) (by omega) nF (yf o)
 have hwl:w.heap.size + 1 < w3.heap.size:=by have:=hst.upd.size;omega
 have u3:=(Stood.after (hkw2.trans k4) hst).upd
 obtain ⟨⟨F3,r3,sub3⟩,-⟩:=hst
 have nF3:¬ F3 (w.heap.size + 1):=fun hf=>by
  rcases sub3 _ hf with q | q
  ·exact nF q
  ·omega
 have sub3':∀ j,F3 j → F j ∨ w.heap.size ≤ j:=fun j hj=>by
  rcases sub3 j hj with q | q
  ·exact .inl q
  ·right;have:=hkw2.size;omega
 have HST:=Lib.hid (Stood.putAt r3 sub3' u3 nF3 (Nat.le_succ _))
 have HOK:=Lib.hid hok
 have HBT:=Lib.hid hbt
 have HGR:=Lib.hid hgr
 clear hok hbt hgr r3 sub3 sub3' u3 nF3
 go_wp2_with fail
 all_goals refine bodyPost_ret (v:=.tuple #[.agg #[.int .u8 e.tag,.int .u32 e.to],.int .u8 0]) (by simp [results,Tryz.results90,go_sem,hwl,y0,y1]) rfl ?_
 all_goals refine ⟨e,M',rfl,HOK.out,HBT.out,HGR.out,?_⟩
 all_goals first | exact (HST.out _ _) | exact (HST.out _ _).keeps (by (exact kp))

def sizesL (k:Nat) (bs:List Bool):List Int:=(List.range 5).map (fun i:Nat=>(termN ((i:Int) + 1) k bs:Int))

theorem sizesL_get {k:Nat} {bs:List Bool} {f:Nat} (h1:1 ≤ f) (h5:f ≤ 5):(sizesL k bs)[f - 1]?=some (termN (f:Int) k bs:Int):=by
 unfold sizesL
 rw [List.getElem?_map,List.getElem?_range (by omega)]
 simp only [Option.map_some]
 congr 3
 omega

theorem sizesL_len (k:Nat) (bs:List Bool):(sizesL k bs).length=5:=by unfold sizesL;simp

theorem BuiltAt.made {f:Int} {M:St} {has:Nat → Bool} {ps:List Int} {x:Edge} (h:BuiltAt f M has ps 0 0 x):MadeAt f M (bldT has ps 0) ps.length 0 0 x:=by
 refine ⟨?_,h.2⟩
 rw [List.drop_zero,List.take_of_length_le (by rw [bldT_len];exact Nat.le_refl _)]
 exact h.1

set_option maxRecDepth 100000 in
set_option maxHeartbeats 4000000 in
theorem sizes_calls {Fo:Nat → Prop} {w:World} {ob:Nat} {ps ws:List Int} (ho:OrdRep Fo w ob ps) (h6:ps.length ≤ 6) (aw:Option Addr) (len cap:Nat) (hl:ws.length=len) (hl2:len ≤ 1048576) (hW:WordsAt w aw ws) (hok:setOkB (ps.length:Int) ws=true) :
  Calls Tryz.prog 62 #[.pointer (some ⟨ob,0,none⟩),.agg #[.int .i64 (ps.length:Int),.slice aw len cap]] w fun e w'=>∃ a' cap',e=.returned (.tuple #[.slice a' 5 cap',.int .u8 0]) ∧ IntsAt w' a' (sizesL ps.length (bldT (hasB ws) ps 0)) ∧ Keeps w w':=by
 have hvr:=fun (W:World) (hk:Keeps w W)=>ordVars_calls (ho.keeps hk)
 have hnw:=fun (W:World)=>store_new (ps.length:Int) 1048576 W (by omega) (by omega) (by omega) (by omega)
 have hp64:2 ^ ps.length ≤ 64:=by
  have h1:2 ^ ps.length ≤ 2 ^ 6:=Nat.pow_le_pow_right (by decide) h6
  exact h1
 have hw0:0 < ws.length:=by have:=(setOkB_iff.1 hok).2.1;omega
 have hof:=fun (f:Nat) (hf1:1 ≤ f) (hf5:f ≤ 5) (W W0:World) (sb:Nat) (F:Nat → Prop) (hk0:Keeps w W0) (hk:Keeps W0 W) (hF:∀ k,F k → W0.heap.size ≤ k) (h:StoreRep F W sb (St.new (ps.length:Int) 1048576))=>by
  have hkw:=hk0.trans hk
  have s0:=hk0.size
  exact buildOf_calls h (ho.keeps hkw) (fun k h1 h2=>by have:=hF k h1;have:=ho.lt k h2;omega) rfl (f:Int) (by simp [isFormB];omega) aw len cap hl hl2 (hW.keeps hkw) (fun b off hb hh=>by
   obtain ⟨x,hx⟩:∃ x,ws[0]?=some x:=⟨_,List.getElem?_eq_getElem hw0⟩
   obtain ⟨_,b2,off2,ha,hc⟩:=hW 0 x hx
   rw [hb] at ha
   cases ha
   have h1:=lt_of_cell hc
   dsimp only at h1
   have:=hF b hh
   omega) hok (by
   show (0:Int) + _ ≤ 1048576
   omega)
 have hsz:=fun (f:Nat) (hf1:1 ≤ f) (hf5:f ≤ 5) (F:Nat → Prop) (W:World) (sb:Nat) (M:St) (x:Edge) (r:StoreRep F W sb M) (hn:M.n=(ps.length:Int)) (hb:BuiltAt (f:Int) M (hasB ws) ps 0 0 x) (hx:x.ok) (W2:World) (hk2:Keeps W W2)=>by
  obtain ⟨c1,c2,c3⟩:=made_count r (f:=(f:Int)) (by omega) h6 (by omega) (bldT_len (hasB ws) ps 0) hb.made hx
  have:=csize_calls (r.keeps hk2) (f:Int) x 0 hx
  rw [c3] at this
  simp only [if_true] at this
  rw [c2] at this
  exact this
 have hget:=fun (f:Nat) (hf1:1 ≤ f) (hf5:f ≤ 5)=>sizesL_get (k:=ps.length) (bs:=bldT (hasB ws) ps 0) hf1 hf5
 have hslen:=sizesL_len ps.length (bldT (hasB ws) ps 0)
 obtain ⟨bs,hbs⟩:∃ bs,bs=bldT (hasB ws) ps 0:=⟨_,rfl⟩
 rw [← hbs] at hsz hget hslen ⊢
 obtain ⟨n,hnn⟩:∃ n,n=ps.length:=⟨_,rfl⟩
 rw [← hnn] at hvr hnw hof hsz hget hslen h6 ⊢
 obtain ⟨zs,hzs⟩:∃ zs,zs=sizesL n bs:=⟨_,rfl⟩
 rw [← hzs] at hget hslen ⊢
 obtain ⟨i0,hi,hz0,hz1,hz2⟩:=info_parts info_int
 have HVR:=Lib.hid hvr
 have HNW:=Lib.hid hnw
 have HOF:=Lib.hid hof
 have HSZ:=Lib.hid hsz
 have HGT:=Lib.hid hget
 have HSL:=Lib.hid hslen
 have hbox:∀ k,Fo k → k < w.heap.size:=ho.lt
 clear ho hl hW hok hvr hnw hof hsz hget hslen hnn hzs hbs hp64 hw0
 go_enter Tryz.func62,Tryz.ntmps62
 go_wp2_with fail
 obtain ⟨W1,hW1⟩:∃ W1,W1=w.alloc (.cells #[.int .i64 (n:Int),.slice aw len cap] 116):=⟨_,rfl⟩
 rw [← hW1]
 have kW1:Keeps w W1:=by rw [hW1];exact (Keeps.refl _).alloc _
 have b0:W1.cell? ⟨w.heap.size,0,none⟩=some (.int .i64 (n:Int)):=by rw [hW1];simp [go_sem]
 have b1:W1.cell? ⟨w.heap.size,1,none⟩=some (.slice aw len cap):=by rw [hW1];simp [go_sem]
 clear hW1
 go_loopg [6,7,8,9,10,11] 5 (fun gk s6 s7 s8 s9 s10 s11 wr=>∃ (f:Nat) (v:Value),f + gk=6 ∧ 1 ≤ f ∧ s7=.int .u8 (f:Int) ∧ s6=v ∧ wr.ownsRow W1.heap.size 3 1 v (f - 1) ((zs.take (f - 1)).map (Value.int .i64)) ∧ Keeps W1 wr)
 case atStart=>exact ⟨1,.slice none 0 0,rfl,by omega,rfl,rfl,World.ownsRow_nil _ _ _ _,Keeps.refl _⟩
 case round=>
  obtain ⟨f,v,hfg,hf1,rfl,rfl,hown,hk⟩:=hrel
  obtain ⟨la,lcap,rfl,-⟩:=owns_slice hown
  have HOW:=Lib.hid hown
  clear hown
  have c0:=hk.cell b0
  have c1:=hk.cell b1
  have hkw:=kW1.trans hk
  by_cases hf5:f ≤ 5
  ·go_wp2_with fail
   refine (HVR.out _ hkw).mono ?_
   rintro e w2 ⟨rfl,rfl⟩
   go_wp2_with fail
   refine (HNW.out _).mono ?_
   rintro e w3 ⟨sb,F,rfl,hk3,hF,hS⟩
   have HO1:=Lib.hid (HOF.out f hf1 hf5 w3 wr sb F hkw hk3 hF hS)
   replace c0:=hk3.cell c0
   replace c1:=hk3.cell c1
   have hbl:w.heap.size < w3.heap.size:=by have:=lt_of_cell c0;exact this
   have HF:=Lib.hid hF
   have HS:=Lib.hid hS
   clear hF hS
   go_wp2_with fail
   refine HO1.out.mono ?_
   rintro e w4 ⟨x,M',rfl,hxok,hbt,⟨hgr,-⟩,hst⟩
   have hk34:Keeps wr w4:=hk3.new hst.upd (fun k hk=>HF.out k hk)
   obtain ⟨⟨F4,r4,sub4⟩,u4⟩:=hst
   have hsz4:=HSZ.out f hf1 hf5 F4 w4 sb M' x r4 (by rw [hgr.ext.n];rfl) hbt hxok
   obtain ⟨z,hz⟩:∃ z:Nat,z=termN (f:Int) n bs:=⟨_,rfl⟩
   have hzg:=HGT.out f hf1 hf5
   rw [← hz] at hsz4 hzg
   have HSZ4:=Lib.hid hsz4
   have HZG:=Lib.hid hzg
   have hkk4:=hk.trans hk34
   clear hsz4 hzg r4 sub4 u4 hbt hgr hz
   go_wp2_with fail
   refine (HSZ4.out _ (by (exact kp))).mono ?_
   rintro e w5 ⟨rfl,hk5⟩
   have hkr5:Keeps wr w5:=(hk34.alloc _).trans hk5
   have hkk5:Keeps W1 w5:=hk.trans hkr5
   have hOW5:=Keeps.owns hkr5 HOW.out
   have HOW5:=Lib.hid hOW5
   have s5:=hkk5.size
   have q1:f - 1 + 1 ≤ maxLen:=by unfold maxLen;omega
   have q2:(f - 1 + 1) * 8 ≤ 140737488355328:=by omega
   clear hOW5 hkr5 hk5 hkk4 hk34
   go_upto_region 16 with fail
   go_wp2_with (first
    | (at_builtin;refine wpList_append_own _ rfl _ _ 38 rfl W1.heap.size 3 i0 (.int .i64 0) 1 8 Tryz.underlying38 hi hz0 hz1 hz2 rfl (by decide) (.slice la (f - 1) lcap) (f - 1) ((zs.take (f - 1)).map (Value.int .i64)) rfl (HOW5.out.alloc _) ⟨w5.heap.size,0,none⟩ 1 1 [.int .i64 (z:Int)] rfl rfl (cell_new _ _ _ _ rfl) (by simp [Value.oneCell']) (by exact q1) (by exact q2) (by simp;omega) ?_;intro v3 w6 hown3 hg3 _)
    | fail)
   obtain ⟨lb,lcap2,rfl,-⟩:=owns_slice hown3
   have hu3:Upd (fun k=>(Value.slice la (f - 1) lcap).ownBlock=some k) w5 w6:=Upd.grown (by repeat (first | exact Upd.refl _ _ | refine Upd.alloc ?_ _ | refine Upd.drew ?_)) hg3 (fun k hk=>.inl hk)
   have hk6:Keeps W1 w6:=hkk5.new hu3 (fun k hk2=>by
    rcases HOW5.out.2 with ⟨e0,_⟩ | ⟨g',cap',cur,e0,hbg,_⟩
    ·rw [e0] at hk2;simp [Value.ownBlock] at hk2
    ·rw [e0] at hk2;simp [Value.ownBlock] at hk2;omega)
   have HO6:=Lib.hid hown3
   clear hown3 hg3 hu3
   go_wp2_with fail
   go_roundg (gk - 1)
   case rel=>exact ⟨f + 1,_,by omega,by omega,by simp,rfl,by
    have:=HO6.out
    rw [show f + 1 - 1=f - 1 + 1 by omega,take_snoc HZG.out,List.map_append]
    exact this,hk6⟩
   case measure=>omega
  ·have hf6:f=6:=by omega
   subst hf6
   have hO:=HOW.out
   rw [List.take_of_length_le (by rw [HSL.out];omega)] at hO
   have HO:=Lib.hid hO
   clear hO
   go_wp2_with fail
   go_ret2
   refine ⟨la,lcap,rfl,fun i x hx=>?_,hkw⟩
   have hi5:i < 5:=by have:=(List.getElem?_eq_some_iff.1 hx).1;rw [HSL.out] at this;exact this
   obtain ⟨a0,cp0,e0,hs0⟩:=owns_slice HO.out
   cases e0
   obtain ⟨g,rfl⟩:=hs0 (by omega)
   exact (rowI_owns HO.out).1.ints i x hx

theorem l21_sizes:sizesL 1 (bldT (hasB [3]) (numsI 1) 0)=[0,1,0,1,0]:=by decide +kernel

set_option maxRecDepth 100000 in
theorem l21_alive (w:World):Calls Tryz.prog 11 #[] w fun e w'=>e=.returned (.bool true) ∧ Keeps w w':=by
 have hok:setOkB ((numsI 1).length:Int) [3]=true:=by decide
 have hSZ:=fun (W:World) (Fo:Nat → Prop) (ob B:Nat) (ho:OrdRep Fo W ob (numsI 1)) (hw:WordsAt W (some ⟨B,0,none⟩) [3])=>sizes_calls ho (by decide) (some ⟨B,0,none⟩) 1 1 (ws:=[3]) rfl (by decide) hw hok
 rw [numsI_len,l21_sizes] at hSZ
 have HSZ:=Lib.hid hSZ
 clear hSZ hok
 go_enter Tryz.func11,Tryz.ntmps11
 go_wp2_with fail
 refine (orderNew_calls 1 (by decide) _).mono ?_
 rintro e w1 ⟨hk1,ob,Fo,rfl,hO,hF⟩
 have HO:=Lib.hid hO
 clear hO hF
 go_wp2_with fail
 have hwd:WordsAt (w1.alloc (.cells #[.int .u64 3] 50)) (some ⟨w1.heap.size,0,none⟩) [3]:=fun i x hx=>by
  rcases i with _ | i
  ·simp at hx;subst hx;exact ⟨by decide,_,0,rfl,by simp [go_sem]⟩
  ·simp at hx
 refine (HSZ.out _ Fo ob w1.heap.size (HO.out.keeps (by (exact kp))) hwd).mono ?_
 rintro e w2 ⟨a2,c2,rfl,hI,hk2⟩
 have HI:=Lib.hid hI
 clear hI hwd
 go_wp2_with fail
 have hI5:IntsAt (w2.alloc (.cells #[.int .i64 0,.int .i64 1,.int .i64 0,.int .i64 1,.int .i64 0] 3)) (some ⟨w2.heap.size,0,none⟩) [0,1,0,1,0]:=fun i x hx=>by
  rcases i with _ | _ | _ | _ | _ | i
  ·simp at hx;subst hx;exact ⟨_,0,rfl,by simp [go_sem]⟩
  ·simp at hx;subst hx;exact ⟨_,0,rfl,by simp [go_sem]⟩
  ·simp at hx;subst hx;exact ⟨_,0,rfl,by simp [go_sem]⟩
  ·simp at hx;subst hx;exact ⟨_,0,rfl,by simp [go_sem]⟩
  ·simp at hx;subst hx;exact ⟨_,0,rfl,by simp [go_sem]⟩
  ·simp at hx
 have hin:=ints_calls a2 (some ⟨w2.heap.size,0,none⟩) c2 5 [0,1,0,1,0] [0,1,0,1,0] _ (HI.out.keeps ((Keeps.refl w2).alloc _)) hI5 (by decide) (by decide)
 rw [decide_eq_true rfl] at hin
 refine hin.mono ?_
 rintro e w3 ⟨rfl,hk3⟩
 go_wp2_with fail
 go_ret
 exact ⟨rfl,by (exact kp)⟩

end Go.Proofs.YtpgcbmbnognieaaGreat
