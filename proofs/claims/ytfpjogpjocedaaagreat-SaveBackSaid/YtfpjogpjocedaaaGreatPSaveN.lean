/-
  save.pen.nodes: the nodes that an edge reaches, each behind its two edges.
-/
import Derived.Test.YtfpjogpjocedaaaGreatPSaveE
namespace Go.Proofs.YtfpjogpjocedaaaGreat
set_option linter.unusedSimpArgs false
set_option linter.unusedVariables false
set_option maxHeartbeats 600000
open Go Go.RowKit

structure PenCtx (base:Nat) (F:Nat → Prop) (W:World) (sb pb mb:Nat) (f:Int) (M:St) (S:List Int):Prop where
 rep:StoreRep F W sb M
 pen:Pen base W pb (.pointer (some ⟨sb,0,none⟩)) (.int .u8 f) (.map (some mb)) (recsB M f S)
 map:PenMap W mb S
 ok:NumOk M S
 old:∀ k,F k → k < base
 hm:base ≤ mb

theorem PenCtx.fit {base:Nat} {F:Nat → Prop} {W:World} {sb pb mb:Nat} {f:Int} {M:St} {S:List Int} (h:PenCtx base F W sb pb mb f M S):FitA M:=fun _ _ hl=>h.rep.fit hl

theorem PenCtx.few {base:Nat} {F:Nat → Prop} {W:World} {sb pb mb:Nat} {f:Int} {M:St} {S:List Int} (h:PenCtx base F W sb pb mb f M S):S.length ≤ 1048576:=by
 have h1:=ids_few M.cs.length S h.ok.once (fun x hx=>by
  cases hl:look M.cs x with
  | none=>exact absurd hl (h.ok.known x hx)
  | some r=>have:=look_some hl;exact ⟨this.1,this.2.1⟩)
 obtain ⟨⟨ab,ib,ts,Fa,Fi,_,h2,_⟩,_⟩:=h.rep
 have:=h2.few
 omega

theorem PenCtx.keeps {base:Nat} {F:Nat → Prop} {W W':World} {sb pb mb:Nat} {f:Int} {M:St} {S:List Int} (h:PenCtx base F W sb pb mb f M S) (hk:Keeps W W'):PenCtx base F W' sb pb mb f M S:=
 ⟨h.rep.keeps hk,h.pen.keeps hk,h.map.keeps hk,h.ok,h.old,h.hm⟩

theorem StoreRep.pens {base:Nat} {F:Nat → Prop} {W W':World} {sb pb:Nat} {mb:Option Nat} {M:St} (h:StoreRep F W sb M) (hu:Upd (PF W base pb mb) W W') (ho:∀ k,F k → k < base) (hp:base ≤ pb) (hm:∀ k,mb=some k → base ≤ k):StoreRep F W' sb M:=
 h.keep hu (fun k hk hh=>by
  have:=ho k hk
  rcases hh with hh | hh | hh
  ·omega
  ·have:=hm k hh.symm;omega
  ·have:=hh.1;omega)

theorem IsBlk.setCell {w:World} {t:TypeId} {k:Nat} (h:IsBlk w t k) (b i:Nat) (v:Value):IsBlk (w.setCell ⟨b,i,none⟩ v) t k:=by
 obtain ⟨cs,hc⟩:=h
 by_cases e:k=b
 ·subst e
  exact ⟨_,heap_setCell_same w k i cs t v hc⟩
 ·exact ⟨cs,(Below.heap_setCell _ _ _ _ (fun hh=>e hh)).trans hc⟩

theorem IsBlk.alloc {w:World} {t:TypeId} {k:Nat} (h:IsBlk w t k) (o:Obj):IsBlk (w.alloc o) t k:=by
 obtain ⟨cs,hc⟩:=h
 exact ⟨cs,(Below.heap_alloc _ _ _ (lt_of_heap hc)).trans hc⟩

theorem IsBlk.new (w:World) (cs:Array Value) (t:TypeId):IsBlk (w.alloc (.cells cs t)) t w.heap.size:=⟨cs,heap_alloc_new w _⟩

theorem IsBlk.drew {w:World} {t:TypeId} {k:Nat} (h:IsBlk w t k):IsBlk w.drew t k:=h

theorem IsBlk.keeps {w w':World} {t:TypeId} {k:Nat} (h:IsBlk w t k) (hk:Keeps w w'):IsBlk w' t k:=by
 obtain ⟨cs,hc⟩:=h
 exact ⟨cs,hk.heap hc⟩

theorem IsBlk.pens {w w':World} {base pb:Nat} {mb:Option Nat} {t:TypeId} {k:Nat} (h:IsBlk w t k) (hu:Upd (PF w base pb mb) w w') (ht:t ≠ 5) (hp:k ≠ pb) (hm:mb ≠ some k):IsBlk w' t k:=by
 obtain ⟨cs,hc⟩:=h
 refine ⟨cs,(hu.block k (lt_of_heap hc) (fun hh=>?_)).trans hc⟩
 rcases hh with hh | hh | ⟨_,cs',hh⟩
 ·exact hp hh
 ·exact hm hh.symm
 ·rw [hc] at hh
  cases hh
  exact ht rfl

theorem Upd.pen_cell {w w':World} {base pb:Nat} {mb:Option Nat} (hu:Upd (PF w base pb mb) w w') {t:TypeId} {k o:Nat} {v:Value} (h:IsBlk w t k) (ht:t ≠ 5) (hp:k ≠ pb) (hm:mb ≠ some k) (hc:w.cell? ⟨k,o,none⟩=some v):w'.cell? ⟨k,o,none⟩=some v:=by
 obtain ⟨cs,hb⟩:=h
 exact hu.pen_other hb ht hp hm hc

theorem PenMap.look_ok {W:World} {mb:Nat} {S:List Int} (h:PenMap W mb S) {id:Int} (hid:0 ≤ id ∧ id ≤ 4294967295):∃ v,(Instr.lookup 163 (.map (some mb)) (.int .u32 id) true).run Tryz.prog W=.ok (.tuple #[v,.bool (decide (id ∈ S))]) W:=by
 obtain ⟨D,q1,q2⟩:=h
 have hwf:(Lit.int .u32 id).wf=true:=by simp [Lit.wf,show IntKind.u32.min=0 from rfl,show IntKind.u32.max=4294967295 from rfl];omega
 have hkey:=Maps.keyOf_int_mk Tryz.underlying35 hwf
 obtain ⟨v,ps,hrun,_⟩:=q1.look_ok (Maps.int_keyed Tryz.underlying35) Tryz.underlying163 (zero_u64 W) (plainElem_int (H:=Unit) Tryz.underlying60 (by decide)) hkey
 refine ⟨v,?_⟩
 rw [hrun]
 have:Maps.has D (.int .u32 id)=decide (id ∈ S):=by
  rw [Bool.eq_iff_iff,q2.keys,decide_eq_true_eq]
 rw [this]

theorem Pen.map_upd {base:Nat} {w w':World} {pb mb:Nat} {c0 c1 c3:Value} {bs S:List Int} (h:Pen base w pb c0 c1 c3 bs) (hm:PenMap w mb S) (hu:Upd (fun k=>k=mb) w w'):Pen base w' pb c0 c1 c3 bs:=by
 obtain ⟨⟨v,h1,h2⟩,h3⟩:=h
 refine ⟨⟨v,(hu.block pb (lt_of_heap h1) (hm.ne h1)).trans h1,Upd.owns hu (fun k hk e=>?_) h2⟩,h3⟩
 obtain ⟨⟨cs,hc⟩,_⟩:=h2.blk hk
 exact hm.ne hc e

theorem PenMap.pens {w w':World} {base pb mb:Nat} {S:List Int} (h:PenMap w mb S) (hu:Upd (PF w base pb none) w w') (hp:pb ≠ mb):PenMap w' mb S:=
 h.upd hu (fun hh=>by
  rcases hh with hh | hh | ⟨_,cs,hh⟩
  ·exact hp hh.symm
  ·cases hh
  ·exact h.ne hh rfl)

theorem IsBlk.ne_map {w:World} {t:TypeId} {k mb:Nat} {S:List Int} (h:IsBlk w t k) (hm:PenMap w mb S):k ≠ mb:=by
 obtain ⟨cs,hc⟩:=h
 exact hm.ne hc

def NodesOut (base:Nat) (F:Nat → Prop) (sb pb mb:Nat) (f:Int) (M:St) (id:Int) (S:List Int) (W:World) (e:Ending) (W':World):Prop:=
 e=.returned (.tuple #[]) ∧ PenCtx base F W' sb pb mb f M (numM M id S) ∧ Upd (PF W base pb (some mb)) W W'

set_option maxRecDepth 100000 in
set_option maxHeartbeats 1000000 in
theorem nodes_step {base:Nat} {F:Nat → Prop} {w:World} {sb pb mb:Nat} {f:Int} {M:St} {S:List Int} (t id:Int) (hid:0 ≤ id ∧ id ≤ 4294967295) (h:PenCtx base F w sb pb mb f M S)
  (hlo:∀ r,look M.cs id=some r → ∀ S W,PenCtx base F W sb pb mb f M S → Calls Tryz.prog 104 #[.pointer (some ⟨pb,0,none⟩),.agg #[.int .u8 r.lo.tag,.int .u32 r.lo.to]] W (NodesOut base F sb pb mb f M r.lo.to S W))
  (hhi:∀ r,look M.cs id=some r → ∀ S W,PenCtx base F W sb pb mb f M S → Calls Tryz.prog 104 #[.pointer (some ⟨pb,0,none⟩),.agg #[.int .u8 r.hi.tag,.int .u32 r.hi.to]] W (NodesOut base F sb pb mb f M r.hi.to S W)) :
  Calls Tryz.prog 104 #[.pointer (some ⟨pb,0,none⟩),.agg #[.int .u8 t,.int .u32 id]] w (NodesOut base F sb pb mb f M id S w):=by
 have HX:=Lib.hid h
 have HLO:=Lib.hid hlo
 have HHI:=Lib.hid hhi
 have c0:=h.pen.cell.1
 have hpw:pb < w.heap.size:=by obtain ⟨⟨v,h1,h2⟩,h3⟩:=h.pen;exact lt_of_heap h1
 have H:=Lib.hid (fun (W:World) (hW:Keeps w W)=>store_get (h.rep.keeps hW) id hid.2)
 have hn1:w.heap.size ≠ pb:=by omega
 have hn2:w.heap.size + 1 ≠ pb:=by omega
 clear h hlo hhi
 obtain ⟨x,hx⟩:∃ x,x=grec (look M.cs id):=⟨_,rfl⟩
 obtain ⟨ok,hok⟩:∃ ok,ok=gsome (look M.cs id):=⟨_,rfl⟩
 rw [← hx,← hok] at H
 have HOK:=Lib.hid hok
 have HXE:=Lib.hid hx
 clear hx hok
 go_enter Tryz.func104,Tryz.ntmps104
 go_upto_region 1 with fail
 go_cut [4,5] (fun s5 s6 wx=>∃ B,s5=.pointer (some ⟨B,0,none⟩) ∧ s6=.bool ok ∧ wx.cell? ⟨B,1,none⟩=some (.int .u8 x.top) ∧ wx.cell? ⟨B,2,none⟩=some (.int .u8 x.bot) ∧ wx.cell? ⟨B,3,none⟩=some (.int .u8 x.lo.tag) ∧ wx.cell? ⟨B,4,none⟩=some (.int .u32 x.lo.to) ∧ wx.cell? ⟨B,5,none⟩=some (.int .u8 x.hi.tag) ∧ wx.cell? ⟨B,6,none⟩=some (.int .u32 x.hi.to) ∧
  wx.cell? ⟨w.heap.size,0,none⟩=some (.int .u8 t) ∧ wx.cell? ⟨w.heap.size,1,none⟩=some (.int .u32 id) ∧ IsBlk wx 87 B ∧ w.heap.size < B ∧ Keeps (w.alloc (.cells #[.int .u8 t,.int .u32 id] 37)) wx)
 case first=>
  go_region_held3 (fun w'=>w'.cell? ⟨pb,0,none⟩=some (.pointer (some ⟨sb,0,none⟩)) ∧ w'.cell? ⟨w.heap.size,1,none⟩=some (.int .u32 id)) (go_keep) ((first | (go_at_call 46;refine (H.out _ (by (exact kp))).mono ?_;rintro e w1 ⟨rfl,hb⟩;obtain ⟨hc,hf⟩:=hb.cells;have hwb:Keeps (w.alloc (.cells #[.int .u8 t,.int .u32 id] 37)) w1:=(by (exact kp));have k2:Keeps w w1:=(((Keeps.refl w).alloc _).trans hwb);have z0:w1.cell? ⟨w.heap.size,0,none⟩=some (.int .u8 t):=hwb.cell (by simp);have z1:w1.cell? ⟨w.heap.size,1,none⟩=some (.int .u32 id):=hwb.cell (by simp);have y0:=k2.cell c0;have hsz:=hwb.size;simp only [World.size_alloc] at hsz;have hn4:w1.heap.size ≠ pb:=(by omega);have hn5:w1.heap.size ≠ w.heap.size:=(by omega);have hz6:w.heap.size < w1.heap.size:=(by omega))))
  all_goals (try go_wp2_with fail)
  all_goals go_meet
  all_goals (have hsA:(w.alloc (.cells #[.int .u8 t,.int .u32 id] 37)).heap.size=w.heap.size + 1:=World.size_alloc _ _)
  all_goals first
   | (refine ⟨w1.heap.size,rfl,rfl,?_⟩;exact ⟨by simp [go_sem],by simp [go_sem],by simp [go_sem],by simp [go_sem],by simp [go_sem],by simp [go_sem],by simp [go_sem,hz6,z0],by simp [go_sem,hz6,z1],IsBlk.new _ _ _,hz6,hwb.alloc _⟩)
   | (have q1:=hb.cell (a:=⟨w.heap.size + 1,1,none⟩) (v:=.int .u8 0) (by simp [go_sem])
      have q2:=hb.cell (a:=⟨w.heap.size + 1,2,none⟩) (v:=.int .u8 0) (by simp [go_sem])
      have q3:=hb.cell (a:=⟨w.heap.size + 1,3,none⟩) (v:=.int .u8 0) (by simp [go_sem])
      have q4:=hb.cell (a:=⟨w.heap.size + 1,4,none⟩) (v:=.int .u32 0) (by simp [go_sem])
      have q5:=hb.cell (a:=⟨w.heap.size + 1,5,none⟩) (v:=.int .u8 0) (by simp [go_sem])
      have q6:=hb.cell (a:=⟨w.heap.size + 1,6,none⟩) (v:=.int .u32 0) (by simp [go_sem])
      have hbl:IsBlk w1 87 (w.heap.size + 1):=by
       have:=(IsBlk.new (w.alloc (.cells #[.int .u8 t,.int .u32 id] 37)) #[.int .u8 0,.int .u8 0,.int .u8 0,.int .u8 0,.int .u32 0,.int .u8 0,.int .u32 0] 87).drew.keeps hb
       rw [hsA] at this
       exact this
      exact ⟨w.heap.size + 1,rfl,rfl,by simp [go_sem,q1],by simp [go_sem,q2],by simp [go_sem,q3],by simp [go_sem,q4],by simp [go_sem,q5],by simp [go_sem,q6],by simp [go_sem,z0],by simp [go_sem,z1],((((((hbl.setCell _ _ _).setCell _ _ _).setCell _ _ _).setCell _ _ _).setCell _ _ _).setCell _ _ _).setCell _ _ _,by omega,by (exact kp)⟩)
 case rest=>
  obtain ⟨B,rfl,rfl,d1,d2,d3,d4,d5,d6,e0,e1,hB,hlt,hk⟩:=hcut
  have k2:=((Keeps.refl w).alloc _).trans hk
  have hE:=(IsBlk.new w #[.int .u8 t,.int .u32 id] 37).keeps hk
  have HX1:=Lib.hid (HX.out.keeps k2)
  have HK:=Lib.hid k2
  have f0:=HX1.out.pen.cell.2.2
  have f1:=HX1.out.pen.cell.2.1
  clear hk k2
  obtain ⟨c1,hq1⟩:=HX1.out.map.look_ok hid
  obtain ⟨c2,hq2⟩:=(HX1.out.keeps ((Keeps.refl _).drew)).map.look_ok hid
  by_cases hm:id ∈ S
  ·have HM:=Lib.hid (numM_met (M:=M) hm)
   rw [decide_eq_true hm] at hq1 hq2
   go_wp2_with fail
   go_region
   go_wp2_with fail
   first | go_end0 | refine bodyPost_ret (results_none rfl _ _ _) rfl ?_
   exact ⟨rfl,by rw [HM.out];exact HX1.out.keeps ((Keeps.refl _).drew),(HK.out.drew).upd _⟩
  ·rw [decide_eq_false hm] at hq1 hq2
   cases hl:look M.cs id with
   | none=>
    have HM:=Lib.hid (numM_none (S:=S) hl)
    have ho:ok=false:=by rw [HOK.out,hl];rfl
    subst ho
    go_wp2_with fail
    go_region
    go_wp2_with fail
    first | go_end0 | refine bodyPost_ret (results_none rfl _ _ _) rfl ?_
    exact ⟨rfl,by rw [HM.out];exact HX1.out.keeps ((Keeps.refl _).drew),(HK.out.drew).upd _⟩
   | some r=>
    have ho:ok=true:=by rw [HOK.out,hl];rfl
    have hxr:x=r:=by rw [HXE.out,hl];rfl
    subst ho
    subst hxr
    have hro:=HX1.out.rep.fit hl
    have hwf:=HX1.out.rep.wf
    have hfa:=HX1.out.fit
    obtain ⟨tp,htp⟩:∃ n:Nat,x.top=(n:Int):=⟨x.top.toNat,by have:=hro.top;omega⟩
    obtain ⟨bp,hbp⟩:∃ n:Nat,x.bot=(n:Int):=⟨x.bot.toNat,by have:=hro.bot;omega⟩
    have tp255:tp ≤ 255:=by have:=hro.top;omega
    have bp255:bp ≤ 255:=by have:=hro.bot;omega
    rw [htp] at d1
    rw [hbp] at d2
    obtain ⟨r,hr⟩:∃ r,r=x:=⟨_,rfl⟩
    rw [← hr] at hl d3 d4 d5 d6 htp hbp hro
    have HNUM:=Lib.hid (numM_some hwf hfa hm hl)
    have HOWN:=Lib.hid (numM_own hwf hfa HX1.out.ok hm hl)
    have HRO:=Lib.hid hro
    have HTP:=Lib.hid htp
    have HBP:=Lib.hid hbp
    have nBp:B ≠ pb:=by omega
    have nEp:w.heap.size ≠ pb:=hn1
    have nBm:some mb ≠ some B:=fun hh=>(hB.ne_map HX1.out.map) (Option.some.inj hh).symm
    have nEm:some mb ≠ some w.heap.size:=fun hh=>(hE.ne_map HX1.out.map) (Option.some.inj hh).symm
    clear hr hro hwf hfa htp hbp
    go_wp2_with fail
    go_region
    go_wp2_with (first | (go_at_call 104;refine (HHI.out r hl _ _ HX2.out).mono ?_;rintro e w3 ⟨rfl,hx3,hu3⟩;have d13:=hu3.pen_cell hB2 (by decide) nBp nBm d12;have d23:=hu3.pen_cell hB2 (by decide) nBp nBm d22;have d33:=hu3.pen_cell hB2 (by decide) nBp nBm d32;have d43:=hu3.pen_cell hB2 (by decide) nBp nBm d42;have d53:=hu3.pen_cell hB2 (by decide) nBp nBm d52;have d63:=hu3.pen_cell hB2 (by decide) nBp nBm d62;have e03:=hu3.pen_cell hE2 (by decide) nEp nEm e02;have e13:=hu3.pen_cell hE2 (by decide) nEp nEm e12;have hB3:=hB2.pens hu3 (by decide) nBp nBm;have hE3:=hE2.pens hu3 (by decide) nEp nEm;clear d12 d22 d32 d42 d52 d62 e02 e12 hB2 hE2;have HX3:=Lib.hid hx3;have HU3:=Lib.hid (HU2.out.pens hu3);have f03:=hx3.pen.cell.2.2;clear hx3 hu3 HX2) | (go_at_call 104;have q:=HX1;clear q;go_loud (refine (HLO.out r hl _ _ (HX1.out.keeps ((Keeps.refl _).drew))).mono ?_;rintro e w2 ⟨rfl,hx2,hu2⟩;replace hB:=hB.drew;replace hE:=hE.drew;have d12:=hu2.pen_cell hB (by decide) nBp nBm d1;have d22:=hu2.pen_cell hB (by decide) nBp nBm d2;have d32:=hu2.pen_cell hB (by decide) nBp nBm d3;have d42:=hu2.pen_cell hB (by decide) nBp nBm d4;have d52:=hu2.pen_cell hB (by decide) nBp nBm d5;have d62:=hu2.pen_cell hB (by decide) nBp nBm d6;have e02:=hu2.pen_cell hE (by decide) nEp nEm e0;have e12:=hu2.pen_cell hE (by decide) nEp nEm e1;have hB2:=hB.pens hu2 (by decide) nBp nBm;have hE2:=hE.pens hu2 (by decide) nEp nEm;clear d1 d2 d3 d4 d5 d6 e0 e1 hB hE;have HX2:=Lib.hid hx2;have HU2:=Lib.hid (show Upd (PF w base pb (some mb)) w w2 from Upd.pens ((HK.out.drew).upd _) hu2);have f02:=hx2.pen.cell.2.2;clear hx2 hu2 HX1)) | fail)
    obtain ⟨S2,hS2⟩:∃ S2,S2=numM M r.hi.to (numM M r.lo.to S):=⟨_,rfl⟩
    rw [← hS2] at HX3 HNUM HOWN
    have hkey:=Maps.keyOf_int_mk Tryz.underlying35 (show (Lit.int .u32 id).wf=true by simp [Lit.wf,show IntKind.u32.min=0 from rfl,show IntKind.u32.max=4294967295 from rfl];omega)
    have hfew:=HX3.out.few
    have pbm:pb ≠ mb:=by
     obtain ⟨⟨v,q1,_⟩,_⟩:=HX3.out.pen
     exact HX3.out.map.ne q1
    obtain ⟨D,own6,nums6⟩:=(HX3.out.map.keeps ((Keeps.refl _).drew))
    obtain ⟨N,hN⟩:∃ N,N=S2.length:=⟨_,rfl⟩
    have hlen6:=own6.len Tryz.underlying163 3
    rw [nums6.size,← hN] at hlen6
    have hwfN:(Lit.int .u64 (N:Int)).wf=true:=by simp [Lit.wf,show IntKind.u64.min=0 from rfl,show IntKind.u64.max=18446744073709551615 from rfl];omega
    obtain ⟨w6,hrun6,hown6,hg6⟩:=own6.update (Maps.int_keyed Tryz.underlying35) Tryz.underlying163 (by unfold maxLen;omega) hkey (plainElem_int (H:=Unit) Tryz.underlying60 hwfN)
    have HM6:Hid (PenMap w6 mb (S2 ++ [id])):=Lib.hid ⟨_,by rw [List.length_append];exact hown6,by rw [hN];exact nums6.put (own6.tidy (Maps.int_keyed Tryz.underlying35)) HOWN.out.1⟩
    have hu6:=Upd.of_grown hg6
    have HP6:=Lib.hid ((HX3.out.pen.keeps ((Keeps.refl _).drew)).map_upd (HX3.out.map.keeps ((Keeps.refl _).drew)) hu6)
    have HU6:Hid (Upd (PF w base pb (some mb)) w w6):=Lib.hid (HU3.out.pens ((show Upd (PF _ base pb (some mb)) _ w6 from ((Upd.refl _ _).drew.trans' (hu6.mono (fun k _ hk=>.inr (.inl (by rw [hk]))))))))
    have nB6:¬ B=mb:=fun hh=>nBm (by rw [hh])
    have d16:=hu6.cellAt nB6 (show World.cell? _ _=_ from d13)
    have d26:=hu6.cellAt nB6 (show World.cell? _ _=_ from d23)
    have d36:=hu6.cellAt nB6 (show World.cell? _ _=_ from d33)
    have d46:=hu6.cellAt nB6 (show World.cell? _ _=_ from d43)
    have d56:=hu6.cellAt nB6 (show World.cell? _ _=_ from d53)
    have d66:=hu6.cellAt nB6 (show World.cell? _ _=_ from d63)
    have hB6:IsBlk w6 87 B:=by
     obtain ⟨cs,hc⟩:=hB3.drew
     exact ⟨cs,(hu6.block B (lt_of_heap hc) nB6).trans hc⟩
    have hwN:IntKind.u64.wrap (N:Int)=(N:Int):=by unfold IntKind.wrap;simp [IntKind.signed,IntKind.bits];omega
    have HN:=Lib.hid hN
    have HLS:Hid ((recsB M f S2).length ≤ 62914560):=Lib.hid (by have:=recsB_len (f:=f) HX3.out.fit hfew;omega)
    have HLT:=Lib.hid (putB_len10 (n:=tp) (by omega))
    have HLB:=Lib.hid (putB_len10 (n:=bp) (by omega))
    have HFW:Hid ((S2 ++ [id]).length ≤ 1048576):=Lib.hid (by
     have h2:=(HX.out.ok.next HX.out.rep.wf HX.out.fit id)
     rw [HNUM.out] at h2
     have h3:=ids_few M.cs.length (S2 ++ [id]) h2.once (fun x hx=>by
      cases hl:look M.cs x with
      | none=>exact absurd hl (h2.known x hx)
      | some r=>have:=look_some hl;exact ⟨this.1,this.2.1⟩)
     obtain ⟨⟨ab,ib,ts,Fa,Fi,_,h4,_⟩,_⟩:=HX.out.rep
     have:=h4.few
     omega)
    have HLL:=Lib.hid (edgeB_len (f:=f) HRO.out.lo HFW.out)
    have HINL:Hid (r.lo.to < 2 ∨ r.lo.to ∈ S2 ++ [id]):=Lib.hid (HOWN.out.2.1.imp (fun hh=>hh) (List.mem_append_left _))
    have HINH:Hid (r.hi.to < 2 ∨ r.hi.to ∈ S2 ++ [id]):=Lib.hid (HOWN.out.2.2.imp (fun hh=>hh) (List.mem_append_left _))
    have HEND:Hid (∀ (w9:World) (bs:List Int),bs=recsB M f S2 ++ recB f S2 r → Pen base w9 pb (.pointer (some ⟨sb,0,none⟩)) (.int .u8 f) (.map (some mb)) bs → PenMap w9 mb (S2 ++ [id]) → Upd (PF w base pb (some mb)) w w9 → NodesOut base F sb pb mb f M id S w (.returned (.tuple #[])) w9):=Lib.hid (fun w9 bs hbs hp9 hm9 hu9=>by
     refine ⟨rfl,⟨HX.out.rep.pens hu9 HX.out.old hp9.hi (fun k hk=>by cases hk;exact HX.out.hm),?_,?_,HX.out.ok.next HX.out.rep.wf HX.out.fit id,HX.out.old,HX.out.hm⟩,hu9⟩
     ·rw [HNUM.out,recsB_snoc HX3.out.ok hl HOWN.out.2.1 HOWN.out.2.2,← hbs]
      exact hp9
     ·rw [HNUM.out]
      exact hm9)
    have HEL:Hid (edgeB f (S2 ++ [id]) r.lo=edgeB f S2 r.lo):=Lib.hid (edgeB_app HOWN.out.2.1)
    have HEH:Hid (edgeB f (S2 ++ [id]) r.hi=edgeB f S2 r.hi):=Lib.hid (edgeB_app HOWN.out.2.2)
    clear nums6 own6 hown6 hg6 hu6 hN
    refine wp_region_head 12 #[true,true,true,true,true,true,true,true,true,true,true,true,false] (by kernel_rfl) (by kernel_rfl) ?_
    simp only [List.take_succ_cons,List.take_zero,List.drop_succ_cons,List.drop_zero]
    repeat still_step
    refine wpStill_nil ?_
    refine wpAny_ready (fuel:=0) (rs:=[12]) (by kernel_rfl) (by decide) (AllReady.cons rfl (fun K hK=>?_) AllReady.nil)
    go_simp
    refine hK _ _ ?_
    clear hK K
    refine wpAny_done (by kernel_rfl) ?_ _
    have x16:=HP6.out.cell.2.1
    cases hch:chainedB f with
    | true=>
     have HEQ:Hid (recsB M f S2 ++ putB tp ++ putB bp ++ edgeB f (S2 ++ [id]) r.lo ++ edgeB f (S2 ++ [id]) r.hi=recsB M f S2 ++ recB f S2 r):=Lib.hid (by
      have hc:f=3 ∨ f=4:=by unfold chainedB at hch;simpa using hch
      unfold recB
      rw [if_pos hc,HEL.out,HEH.out,HTP.out,HBP.out]
      simp only [List.append_assoc,Int.toNat_natCast])
     go_wp2_with (first | (go_at_call 105;have q:=HP9;clear q;refine (pen_edge HP9.out HM9.out r.hi HRO.out.hi (by simp only [List.length_append];have:=HLS.out;have:=HLT.out;have:=HLB.out;have:=HLL.out;omega) HINH.out HFW.out).mono ?_;rintro e w10 ⟨rfl,hp10,hu10⟩;have d110:=hu10.pen_cell hB9 (by decide) nBp (by simp) d19;have d210:=hu10.pen_cell hB9 (by decide) nBp (by simp) d29;have d310:=hu10.pen_cell hB9 (by decide) nBp (by simp) d39;have d410:=hu10.pen_cell hB9 (by decide) nBp (by simp) d49;have d510:=hu10.pen_cell hB9 (by decide) nBp (by simp) d59;have d610:=hu10.pen_cell hB9 (by decide) nBp (by simp) d69;have hB10:=hB9.pens hu10 (by decide) nBp (by simp);clear d19 d29 d39 d49 d59 d69 hB9;have x110:=hp10.cell.2.1;have HP10:=Lib.hid hp10;have HM10:=Lib.hid (HM9.out.pens hu10 pbm);have HU10:=Lib.hid (HU9.out.pens (hu10.pen_map _));clear hp10 hu10 HP9 HM9 HU9;go_wp2_with fail;(first | go_end0 | refine bodyPost_ret (results_none rfl _ _ _) rfl ?_);exact HEND.out _ _ HEQ.out HP10.out HM10.out HU10.out) | (go_at_call 105;have q:=HP8;clear q;refine (pen_edge HP8.out HM8.out r.lo HRO.out.lo (by simp only [List.length_append];have:=HLS.out;have:=HLT.out;have:=HLB.out;omega) HINL.out HFW.out).mono ?_;rintro e w9 ⟨rfl,hp9,hu9⟩;have d19:=hu9.pen_cell hB8 (by decide) nBp (by simp) d18;have d29:=hu9.pen_cell hB8 (by decide) nBp (by simp) d28;have d39:=hu9.pen_cell hB8 (by decide) nBp (by simp) d38;have d49:=hu9.pen_cell hB8 (by decide) nBp (by simp) d48;have d59:=hu9.pen_cell hB8 (by decide) nBp (by simp) d58;have d69:=hu9.pen_cell hB8 (by decide) nBp (by simp) d68;have hB9:=hB8.pens hu9 (by decide) nBp (by simp);clear d18 d28 d38 d48 d58 d68 hB8;have x19:=hp9.cell.2.1;have HP9:=Lib.hid hp9;have HM9:=Lib.hid (HM8.out.pens hu9 pbm);have HU9:=Lib.hid (HU8.out.pens (hu9.pen_map _));clear hp9 hu9 HP8 HM8 HU8) | (go_at_call 106;have q:=HP7;clear q;refine (pen_num HP7.out bp (by omega) (by simp only [List.length_append];have:=HLS.out;have:=HLT.out;omega)).mono ?_;rintro e w8 ⟨rfl,hp8,hu8⟩;have d18:=hu8.pen_cell hB7 (by decide) nBp (by simp) d17;have d28:=hu8.pen_cell hB7 (by decide) nBp (by simp) d27;have d38:=hu8.pen_cell hB7 (by decide) nBp (by simp) d37;have d48:=hu8.pen_cell hB7 (by decide) nBp (by simp) d47;have d58:=hu8.pen_cell hB7 (by decide) nBp (by simp) d57;have d68:=hu8.pen_cell hB7 (by decide) nBp (by simp) d67;have hB8:=hB7.pens hu8 (by decide) nBp (by simp);clear d17 d27 d37 d47 d57 d67 hB7;have x18:=hp8.cell.2.1;have HP8:=Lib.hid hp8;have HM8:=Lib.hid (HM7.out.pens hu8 pbm);have HU8:=Lib.hid (HU7.out.pens (hu8.pen_map _));clear hp8 hu8 HP7 HM7 HU7) | (go_at_call 106;have q:=HP6;clear q;refine (pen_num HP6.out tp (by omega) (by have:=HLS.out;omega)).mono ?_;rintro e w7 ⟨rfl,hp7,hu7⟩;have d17:=hu7.pen_cell hB6 (by decide) nBp (by simp) d16;have d27:=hu7.pen_cell hB6 (by decide) nBp (by simp) d26;have d37:=hu7.pen_cell hB6 (by decide) nBp (by simp) d36;have d47:=hu7.pen_cell hB6 (by decide) nBp (by simp) d46;have d57:=hu7.pen_cell hB6 (by decide) nBp (by simp) d56;have d67:=hu7.pen_cell hB6 (by decide) nBp (by simp) d66;have hB7:=hB6.pens hu7 (by decide) nBp (by simp);clear d16 d26 d36 d46 d56 d66 hB6;have x17:=hp7.cell.2.1;have HP7:=Lib.hid hp7;have HM7:=Lib.hid (HM6.out.pens hu7 pbm);have HU7:=Lib.hid (HU6.out.pens (hu7.pen_map _));clear hp7 hu7 HP6 HM6 HU6) | (go_at_call 121;refine (chained_calls _ _).mono ?_;rintro e w' ⟨rfl,rfl⟩) | fail)
    | false=>
     have HEQ:Hid (recsB M f S2 ++ putB tp ++ edgeB f (S2 ++ [id]) r.lo ++ edgeB f (S2 ++ [id]) r.hi=recsB M f S2 ++ recB f S2 r):=Lib.hid (by
      have hc:¬ (f=3 ∨ f=4):=by unfold chainedB at hch;simpa using hch
      unfold recB
      rw [if_neg hc,HEL.out,HEH.out,HTP.out]
      simp only [List.append_assoc,Int.toNat_natCast,List.nil_append])
     go_wp2_with (first | (go_at_call 105;have q:=HP9;clear q;refine (pen_edge HP9.out HM9.out r.hi HRO.out.hi (by simp only [List.length_append];have:=HLS.out;have:=HLT.out;have:=HLB.out;have:=HLL.out;omega) HINH.out HFW.out).mono ?_;rintro e w10 ⟨rfl,hp10,hu10⟩;have d110:=hu10.pen_cell hB9 (by decide) nBp (by simp) d19;have d210:=hu10.pen_cell hB9 (by decide) nBp (by simp) d29;have d310:=hu10.pen_cell hB9 (by decide) nBp (by simp) d39;have d410:=hu10.pen_cell hB9 (by decide) nBp (by simp) d49;have d510:=hu10.pen_cell hB9 (by decide) nBp (by simp) d59;have d610:=hu10.pen_cell hB9 (by decide) nBp (by simp) d69;have hB10:=hB9.pens hu10 (by decide) nBp (by simp);clear d19 d29 d39 d49 d59 d69 hB9;have x110:=hp10.cell.2.1;have HP10:=Lib.hid hp10;have HM10:=Lib.hid (HM9.out.pens hu10 pbm);have HU10:=Lib.hid (HU9.out.pens (hu10.pen_map _));clear hp10 hu10 HP9 HM9 HU9;go_wp2_with fail;(first | go_end0 | refine bodyPost_ret (results_none rfl _ _ _) rfl ?_);exact HEND.out _ _ HEQ.out HP10.out HM10.out HU10.out) | (go_at_call 105;have q:=HP7;clear q;refine (pen_edge HP7.out HM7.out r.lo HRO.out.lo (by simp only [List.length_append];have:=HLS.out;have:=HLT.out;have:=HLB.out;omega) HINL.out HFW.out).mono ?_;rintro e w9 ⟨rfl,hp9,hu9⟩;have d19:=hu9.pen_cell hB7 (by decide) nBp (by simp) d17;have d29:=hu9.pen_cell hB7 (by decide) nBp (by simp) d27;have d39:=hu9.pen_cell hB7 (by decide) nBp (by simp) d37;have d49:=hu9.pen_cell hB7 (by decide) nBp (by simp) d47;have d59:=hu9.pen_cell hB7 (by decide) nBp (by simp) d57;have d69:=hu9.pen_cell hB7 (by decide) nBp (by simp) d67;have hB9:=hB7.pens hu9 (by decide) nBp (by simp);clear d17 d27 d37 d47 d57 d67 hB7;have x19:=hp9.cell.2.1;have HP9:=Lib.hid hp9;have HM9:=Lib.hid (HM7.out.pens hu9 pbm);have HU9:=Lib.hid (HU7.out.pens (hu9.pen_map _));clear hp9 hu9 HP7 HM7 HU7) | (go_at_call 106;have q:=HP6;clear q;refine (pen_num HP6.out tp (by omega) (by have:=HLS.out;omega)).mono ?_;rintro e w7 ⟨rfl,hp7,hu7⟩;have d17:=hu7.pen_cell hB6 (by decide) nBp (by simp) d16;have d27:=hu7.pen_cell hB6 (by decide) nBp (by simp) d26;have d37:=hu7.pen_cell hB6 (by decide) nBp (by simp) d36;have d47:=hu7.pen_cell hB6 (by decide) nBp (by simp) d46;have d57:=hu7.pen_cell hB6 (by decide) nBp (by simp) d56;have d67:=hu7.pen_cell hB6 (by decide) nBp (by simp) d66;have hB7:=hB6.pens hu7 (by decide) nBp (by simp);clear d16 d26 d36 d46 d56 d66 hB6;have x17:=hp7.cell.2.1;have HP7:=Lib.hid hp7;have HM7:=Lib.hid (HM6.out.pens hu7 pbm);have HU7:=Lib.hid (HU6.out.pens (hu7.pen_map _));clear hp7 hu7 HP6 HM6 HU6) | (go_at_call 121;refine (chained_calls _ _).mono ?_;rintro e w' ⟨rfl,rfl⟩) | fail)

end Go.Proofs.YtfpjogpjocedaaaGreat
