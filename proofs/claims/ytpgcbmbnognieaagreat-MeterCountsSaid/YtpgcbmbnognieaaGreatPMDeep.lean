/-
  The walk of law17.Made, any form (printed by wip/mk_madek.py).
-/
import Derived.Test.YtpgcbmbnognieaaGreatPPartsA
import Derived.Test.YtpgcbmbnognieaaGreatPScaleM
import Derived.Test.YtpgcbmbnognieaaGreatPTwoA
import Derived.Maps.Views
namespace Go.Proofs.YtpgcbmbnognieaaGreat
set_option linter.unusedSimpArgs false
set_option linter.unusedVariables false
set_option maxHeartbeats 600000
open Go.RowKit

def MadeAt (f:Int) (M:St) (bs:List Bool) (k off:Nat) (l:Int) (e:Edge):Prop:=IsT f M k ((bs.drop off).take (2 ^ k)) l e ∧ rightK M f e l

theorem kAct_mkK {M:St} {f l:Int} {lo hi:Edge} (hf:1 ≤ f ∧ f ≤ 5):kAct M f l lo hi=mkK f M l lo hi:=by
 have hff:f=1 ∨ f=2 ∨ f=3 ∨ f=4 ∨ f=5:=by omega
 rcases hff with rfl | rfl | rfl | rfl | rfl <;> rfl

theorem mkK_ok {f:Int} {M:St} {l:Int} {lo hi:Edge} (h:M.wf) (hf:M.cs.length ≤ 1048576) (hlo:lo.ok) (hhi:hi.ok) (h0:0 ≤ l) (h1:l ≤ 255) (hff:1 ≤ f ∧ f ≤ 5):(mkE f M (mkK f M l lo hi)).ok:=by
 have hc:f=1 ∨ f=2 ∨ f=3 ∨ f=4 ∨ f=5:=by omega
 rcases hc with rfl | rfl | hc | hc | hc
 ·rw [mkK1]
  show (actE0 M _).ok
  unfold makeAct bRest
  repeat' split
  all_goals first | exact edge0_ok | exact hlo | exact foundE_fit h hf 0 (by omega) _
 ·rw [mkK2]
  show (actE0 M _).ok
  unfold makeAct zRest
  repeat' split
  all_goals first | exact edge0_ok | exact hlo | exact foundE_fit h hf 0 (by omega) _
 ·have e:mkK f M l lo hi=mkA f M l lo hi:=by subst hc;rfl
  rw [e];exact mkE_ok h hf hlo hhi h0 h1 (.inl hc)
 ·have e:mkK f M l lo hi=mkA f M l lo hi:=by subst hc;rfl
  rw [e];exact mkE_ok h hf hlo hhi h0 h1 (.inr (.inl hc))
 ·have e:mkK f M l lo hi=mkA f M l lo hi:=by subst hc;rfl
  rw [e];exact mkE_ok h hf hlo hhi h0 h1 (.inr (.inr hc))

theorem upd_boxes {F:Nat → Prop} {w0 wc W:World} {fn:FuncId} {args:Array Value} {Q:Ending → World → Prop} {R:World → Prop} (hlt:∀ k,F k → k < w0.heap.size) (hs:w0.heap.size ≤ wc.heap.size)
  (h:Calls Tryz.prog fn args W fun r w'=>Q r w' ∧ Upd F W w' ∧ R w') :
  Calls Tryz.prog fn args W fun r w'=>(Q r w' ∧ Upd F W w' ∧ R w') ∧ (∀ j o,wc.heap.size ≤ j → j < W.heap.size → w'.cell? ⟨j,o,none⟩=W.cell? ⟨j,o,none⟩) ∧ (∀ j o,wc.heap.size ≤ j → j < W.heap.size → w'.frozen? ⟨j,o,none⟩=W.frozen? ⟨j,o,none⟩) ∧ (∀ j,j < W.heap.size → j < w'.heap.size) ∧ (∀ j,j < W.heap.size → ¬ j=w'.heap.size) ∧ (∀ j,j < W.heap.size → ¬ w'.heap.size=j):=by
 refine h.mono fun r w' hh=>⟨hh,fun j o h1 h2=>?_,fun j o h1 h2=>?_,fun j hj=>by have:=hh.2.1.size;omega,fun j hj=>by have:=hh.2.1.size;omega,fun j hj=>by have:=hh.2.1.size;omega⟩
 ·have:=hh.2.1.block j h2 (fun hf=>by have:=hlt _ hf;omega)
  simp only [World.cell?,this]
 ·exact World.frozen?_of_block (a:=⟨j,o,none⟩) (hh.2.1.block j h2 (fun hf=>by have:=hlt _ hf;omega))

theorem Upd.later {F G:Nat → Prop} {a b c:World} (h:Upd F a b) (k:Upd G b c) (hG:∀ i,i < a.heap.size → G i → F i):Upd F a c:=
 ⟨k.os.trans h.os,k.tape.trans h.tape,k.output.trans h.output,Nat.le_trans h.size k.size,fun i hi hf=>(k.block i (Nat.lt_of_lt_of_le hi h.size) (fun hg=>hf (hG i hi hg))).trans (h.block i hi hf)⟩

section
variable {F:Nat → Prop} {w:World} {sb wb b:Nat} {f g:Int} {M:St} {V:List (Edge × Int)} {D:DataW Unit}

end

open Go Go.RowKit

def pairV (a b:Int):Value:=.agg #[.int .i64 a,.int .i64 b]

def dS (M:St) (x:Int):Int:=depthS M M.n.toNat x

def wS (M:St) (x:Int):Int:=waysS M M.n.toNat x

theorem zero_pair (w:World):(zeroValue 154).run Tryz.prog w=.ok (.agg #[.int .i64 0,.int .i64 0]) w:=by kernel_rfl

def DMap (M:St) (w:World) (mb:Nat) (S:List Int):Prop:=∃ D,w.ownsMap Tryz.prog 23 heldElem mb S.length D ∧ Maps.IsMap D ∧ (∀ x,Maps.has D (.int .u32 x)=true ↔ x ∈ S) ∧ ∀ x ∈ S,∀ z,D.atKey (.int .u32 x) z=.held (pairV (dS M x) (wS M x))

structure DCtx (F:Nat → Prop) (cb sb mb:Nat) (M:St) (w:World) (S:List Int):Prop where
 rep:StoreRep F w sb M
 c0:w.cell? ⟨cb,0,none⟩=some (.pointer (some ⟨sb,0,none⟩))
 c1:w.cell? ⟨cb,1,none⟩=some (.map (some mb))
 kept:DMap M w mb S
 nF:¬ F mb

variable {F:Nat → Prop} {cb sb mb:Nat} {M:St} {w:World} {S:List Int}

theorem DMap.block (h:DMap M w mb S):∃ es clock,w.heap[mb]?=some (.map es clock):=by
 obtain ⟨D,⟨es,clock,hb,_⟩,_⟩:=h
 exact ⟨es,clock,hb⟩

theorem DMap.lt (h:DMap M w mb S):mb < w.heap.size:=by
 obtain ⟨es,clock,hb⟩:=h.block
 exact (Array.getElem?_eq_some_iff.1 hb).1

theorem DMap.same {w':World} (h:DMap M w mb S) (he:w'.heap[mb]?=w.heap[mb]?):DMap M w' mb S:=by
 obtain ⟨D,⟨es,clock,hb,rest⟩,h2⟩:=h
 exact ⟨D,⟨es,clock,by rw [he];exact hb,rest⟩,h2⟩

theorem DCtx.keeps {w':World} (h:DCtx F cb sb mb M w S) (hk:Keeps w w'):DCtx F cb sb mb M w' S:=
 ⟨h.rep.keeps hk,hk.cell h.c0,hk.cell h.c1,h.kept.same (hk.block mb h.kept.lt),h.nF⟩

theorem DCtx.turn {w':World} {S':List Int} (h:DCtx F cb sb mb M w S) (hu:Upd (fun k=>k=mb) w w') (hk:DMap M w' mb S'):DCtx F cb sb mb M w' S':=
 ⟨h.rep.keep hu (fun k hk e=>h.nF (e ▸ hk)),hu.cellAt (cell_ne_map h.kept.block h.c0) h.c0,hu.cellAt (cell_ne_map h.kept.block h.c1) h.c1,hk,h.nF⟩

theorem DCtx.fresh {lo:Nat} {w':World} (h:DCtx F cb sb mb M w S) (hu:Upd (fun k=>lo ≤ k) w w') (hF:∀ k,F k → k < lo) (hcb:cb < lo) (hm:mb < lo):DCtx F cb sb mb M w' S:=
 ⟨h.rep.keep hu (fun k hk e=>by have:=hF k hk;omega),hu.cellAt (by omega) h.c0,hu.cellAt (by omega) h.c1,h.kept.same (hu.block mb h.kept.lt (by omega)),h.nF⟩

theorem DMap.look (h:DMap M w mb S) {x:Int} (h0:0 ≤ x) (h1:x ≤ 4294967295):∀ W,W.heap[mb]?=w.heap[mb]? →
  (Instr.lookup 151 (.map (some mb)) (.int .u32 x) true).run Tryz.prog W=.ok (.tuple #[if x ∈ S then pairV (dS M x) (wS M x) else pairV 0 0,.bool (decide (x ∈ S))]) W:=by
 obtain ⟨D,hown,hi,hk,hv⟩:=h
 intro W hW
 have hown':W.ownsMap Tryz.prog 23 heldElem mb S.length D:=by
  obtain ⟨es,clock,hb,rest⟩:=hown
  exact ⟨es,clock,hW.trans hb,rest⟩
 obtain ⟨u,ps,hrun,hu⟩:=hown'.look_ok (Maps.int_keyed Tryz.underlying23) Tryz.underlying151 (zero_pair W) (show heldElem (.agg #[.int .i64 0,.int .i64 0])=some (.held (.agg #[.int .i64 0,.int .i64 0]),[]) from rfl) (key_u32 h0 h1)
 by_cases hx:x ∈ S
 ·rw [hv x hx] at hu
  have e:u=pairV (dS M x) (wS M x):=by unfold heldElem at hu;cases hu;rfl
  rw [hrun,(hk x).2 hx,e,if_pos hx,decide_eq_true hx]
 ·have hh:Maps.has D (.int .u32 x)=false:=by
   cases hb:Maps.has D (.int .u32 x) with
   | false=>rfl
   | true=>exact absurd ((hk x).1 hb) hx
  rw [Maps.atKey_of_not_has hh] at hu
  have e:u=pairV 0 0:=by unfold heldElem at hu;cases hu;rfl
  rw [hrun,hh,e,if_neg hx,decide_eq_false hx]

theorem DMap.put (h:DMap M w mb S) (hS:S.length ≤ 1000000) {x:Int} (h0:0 ≤ x) (h1:x ≤ 4294967295) :
  ∃ w',(Instr.mapUpdate 151 (.map (some mb)) (.int .u32 x) (pairV (dS M x) (wS M x))).run Tryz.prog w=.ok () w' ∧ DMap M w' mb (S ++ [x]) ∧ Upd (fun k=>k=mb) w w':=by
 obtain ⟨D,hown,hi,hk,hv⟩:=h
 obtain ⟨w',hrun,hown',hg⟩:=hown.update (Maps.int_keyed Tryz.underlying23) Tryz.underlying151 (by unfold maxLen;omega) (key_u32 h0 h1) (show heldElem (pairV (dS M x) (wS M x))=some (.held (pairV (dS M x) (wS M x)),[]) from rfl)
 refine ⟨w',hrun,⟨_,by rw [List.length_append];exact hown',hi.put _ _,fun y=>?_,fun y hy z=>?_⟩,Upd.of_grown hg⟩
 ·by_cases hs:y=x
  ·subst hs
   rw [Maps.has_put_same hi (show WideAt.IsKeyLit (.int .u32 y) from True.intro)]
   simp
  ·rw [Maps.has_put_other (fun e=>hs (by cases e;rfl)),hk y]
   simp [hs]
 ·by_cases hs:y=x
  ·subst hs
   exact Maps.atKey_put_same hi (show WideAt.IsKeyLit (.int .u32 y) from True.intro) _ _
  ·have hyS:y ∈ S:=by
    rcases List.mem_append.1 hy with hy | hy
    ·exact hy
    ·exact absurd (List.mem_singleton.1 hy) hs
   rw [Maps.atKey_put_other (fun e=>hs (by cases e;rfl))]
   exact hv y hyS z

def DOut (F:Nat → Prop) (cb sb mb:Nat) (M:St) (S:List Int) (x:Int) (cnt:Nat) (W:World) (e:Ending) (W':World):Prop:=
 e=.returned (pairV (dS M x) (wS M x)) ∧ Upd (fun k=>k=mb) W W' ∧ ∃ S',DCtx F cb sb mb M W' S' ∧ S'.length ≤ S.length + cnt

set_option maxRecDepth 100000 in
theorem from_low (h:DCtx F cb sb mb M w S) (e:Edge) (he:e.ok) (hz:e.to < 2) (cnt:Nat) :
  Calls Tryz.prog 85 #[.pointer (some ⟨cb,0,none⟩),.agg #[.int .u8 e.tag,.int .u32 e.to]] w (DOut F cb sb mb M S e.to cnt w):=by
 have hd:dS M e.to=0:=depthS_none (look_low hz) _
 have hw:wS M e.to=e.to:=waysS_low hz _
 have HC:=Lib.hid h
 have HDW:=Lib.hid (And.intro hd hw)
 have to0:=he.2.1
 have to1:=he.2.2
 clear h hd hw he
 go_enter Tryz.func85,Tryz.ntmps85
 go_wp2_with fail
 refine bodyPost_ret (v:=pairV 0 e.to) (by simp [results,Tryz.results85,go_sem,pairV]) rfl ?_
 refine ⟨by rw [HDW.out.1,HDW.out.2],by (exact up),S,HC.out.keeps (by (exact kp)),by omega⟩

set_option maxRecDepth 100000 in
theorem from_met (h:DCtx F cb sb mb M w S) (e:Edge) (he:e.ok) (hz:2 ≤ e.to) (hin:e.to ∈ S) (hr:(0 ≤ dS M e.to ∧ dS M e.to ≤ 1000) ∧ 0 ≤ wS M e.to ∧ wS M e.to ≤ 1000000) (cnt:Nat) :
  Calls Tryz.prog 85 #[.pointer (some ⟨cb,0,none⟩),.agg #[.int .u8 e.tag,.int .u32 e.to]] w (DOut F cb sb mb M S e.to cnt w):=by
 obtain ⟨d,hd⟩:∃ d,d=dS M e.to:=⟨_,rfl⟩
 obtain ⟨p,hp⟩:∃ p,p=wS M e.to:=⟨_,rfl⟩
 have to0:=he.2.1
 have to1:=he.2.2
 have hlk:=h.kept.look to0 to1
 rw [if_pos hin,decide_eq_true hin,← hd,← hp] at hlk
 unfold pairV at hlk
 have c0:=h.c0
 have c1:=h.c1
 have hcb:=lt_of_cell c0
 have hml:=h.kept.lt
 have HC:=Lib.hid h
 have HDW:=Lib.hid (And.intro hd hp)
 have HLK:=Lib.hid hlk
 clear h hd hp he hin hr hlk
 dsimp only at hcb
 go_enter Tryz.func85,Tryz.ntmps85
 go_wp2_with fail
 obtain ⟨W1,hW1⟩:∃ W1,W1=(w.alloc (.cells #[.int .u8 e.tag,.int .u32 e.to] 25)).alloc (.cells #[.int .i64 0,.int .i64 0] 154):=⟨_,rfl⟩
 have kW1:Keeps w W1:=by rw [hW1];exact ((Keeps.refl _).alloc _).alloc _
 have y0:W1.cell? ⟨w.heap.size,0,none⟩=some (.int .u8 e.tag):=by rw [hW1];simp [go_sem]
 have y1:W1.cell? ⟨w.heap.size,1,none⟩=some (.int .u32 e.to):=by rw [hW1];simp [go_sem]
 have z0:W1.cell? ⟨w.heap.size + 1,0,none⟩=some (.int .i64 0):=by rw [hW1];simp [go_sem]
 have z1:W1.cell? ⟨w.heap.size + 1,1,none⟩=some (.int .i64 0):=by rw [hW1];simp [go_sem]
 have zf:∀ o:Nat,W1.frozen? ⟨w.heap.size + 1,o,none⟩=false:=fun o=>by rw [hW1];simp [go_sem]
 have hs1:W1.heap.size=w.heap.size + 2:=by rw [hW1];simp
 rw [← hW1]
 clear hW1
 have hq1:=HLK.out W1.drew (kW1.drew.block mb hml)
 have hq2:=HLK.out (W1.alloc (.cells #[.int .i64 0,.int .i64 0] 154)).drew ((kW1.alloc _).drew.block mb hml)
 have c0:=kW1.cell c0
 have c1:=kW1.cell c1
 have n1:W1.heap.size ≠ cb:=by omega
 have n2:W1.heap.size ≠ w.heap.size:=by omega
 have hcb1:cb < W1.heap.size:=by omega
 have hwl1:w.heap.size < W1.heap.size:=by omega
 have HS1:=Lib.hid hs1
 have HZF:=Lib.hid zf
 clear hs1 zf
 go_cut [5,6] (fun s5 s6 wx=>∃ B,s5=.pointer (some ⟨B,0,none⟩) ∧ s6=.bool true ∧ wx.cell? ⟨B,0,none⟩=some (.int .i64 d) ∧ wx.cell? ⟨B,1,none⟩=some (.int .i64 p) ∧ Keeps W1 wx)
 case first=>
  go_region_held3 (fun w'=>w'.cell? ⟨cb,1,none⟩=some (.map (some mb)) ∧ w'.cell? ⟨w.heap.size,0,none⟩=some (.int .u8 e.tag) ∧ w'.cell? ⟨w.heap.size,1,none⟩=some (.int .u32 e.to)) (go_keep) (fail)
  all_goals (try go_wp2_with fail)
  all_goals go_meet
  all_goals exact ⟨_,rfl,rfl,by simp [go_sem],by simp [go_sem],by (exact kp)⟩
 case rest=>
  obtain ⟨W2,rfl⟩:∃ W,W=wc:=⟨_,rfl⟩
  obtain ⟨B,rfl,rfl,b0,b1,hkc⟩:=hcut
  have z0:=hkc.cell z0
  have z1:=hkc.cell z1
  have zl:=lt_of_cell z0
  have zf:=fun o:Nat=>hkc.frz (a:=⟨w.heap.size + 1,o,none⟩) (by have:=HS1.out;show w.heap.size + 1 < W1.heap.size;omega) (HZF.out o)
  have hbl:=lt_of_cell b0
  have kk2:Keeps w W2:=kW1.trans hkc
  have hsz2:=kk2.size
  have hzs:w.heap.size + 1 < W2.heap.size:=zl
  have hkz:Keeps w ((W2.setCell ⟨w.heap.size + 1,0,none⟩ (.int .i64 d)).setCell ⟨w.heap.size + 1,1,none⟩ (.int .i64 p)):=(kk2.setCell (by show w.heap.size ≤ w.heap.size + 1;omega) _).setCell (by show w.heap.size ≤ w.heap.size + 1;omega) _
  have HK:=Lib.hid hkz
  clear hkz
  go_wp2_with fail
  refine bodyPost_ret (v:=pairV d p) (by simp [results,Tryz.results85,go_sem,pairV,z0,z1]) rfl ?_
  exact ⟨by rw [HDW.out.1,HDW.out.2],HK.out.upd _,S,HC.out.keeps HK.out,by omega⟩

theorem DOut.boxes {w0 W:World} {fn:FuncId} {args:Array Value} {x:Int} {cnt:Nat} (hlt:mb < w0.heap.size) (h:Calls Tryz.prog fn args W (DOut F cb sb mb M S x cnt W)) :
  Calls Tryz.prog fn args W fun e' w'=>(e'=.returned (pairV (dS M x) (wS M x)) ∧ Upd (fun k=>k=mb) W w' ∧ ∃ S',DCtx F cb sb mb M w' S' ∧ S'.length ≤ S.length + cnt) ∧ (∀ j o,w0.heap.size ≤ j → j < W.heap.size → w'.cell? ⟨j,o,none⟩=W.cell? ⟨j,o,none⟩) ∧ (∀ j o,w0.heap.size ≤ j → j < W.heap.size → w'.frozen? ⟨j,o,none⟩=W.frozen? ⟨j,o,none⟩) ∧ (∀ j,j < W.heap.size → j < w'.heap.size) ∧ (∀ j,j < W.heap.size → ¬ j=w'.heap.size) ∧ (∀ j,j < W.heap.size → ¬ w'.heap.size=j):=
 upd_boxes (w0:=w0) (wc:=w0) (fun k hk=>by omega) (Nat.le_refl _) h

def setOkB (n:Int) (ws:List Int):Bool:=decide (0 ≤ n ∧ n ≤ 16) && (decide (ws.length=max 1 (2 ^ n.toNat / 64)) && decide (6 ≤ n ∨ ws.getD 0 0 < 2 ^ 2 ^ n.toNat))

def hasB (ws:List Int) (x:Nat):Bool:=ws.getD (x / 64) 0 / 2 ^ (x % 64) % 2 == 1

theorem setOkB_iff {n:Int} {ws:List Int}:setOkB n ws=true ↔ (0 ≤ n ∧ n ≤ 16) ∧ ws.length=max 1 (2 ^ n.toNat / 64) ∧ (6 ≤ n ∨ ws.getD 0 0 < 2 ^ 2 ^ n.toNat):=by
 unfold setOkB
 rw [Bool.and_eq_true,Bool.and_eq_true,decide_eq_true_eq,decide_eq_true_eq,decide_eq_true_eq]

def bldT (has:Nat → Bool):List Int → Nat → List Bool
 | [],x=>[has x]
 | v :: vs,x=>bldT has vs x ++ bldT has vs (x ||| 2 ^ v.toNat)

theorem bldT_len (has:Nat → Bool):∀ (vs:List Int) (x:Nat),(bldT has vs x).length=2 ^ vs.length:=by
 intro vs
 induction vs with
 | nil=>intro x;rfl
 | cons v vs ih=>intro x;show (bldT has vs x ++ bldT has vs _).length=2 ^ (vs.length + 1);rw [List.length_append,ih,ih,Nat.pow_succ];omega

def termK (f:Int) (k:Nat) (ts:List Bool) (l:Int):ByteArray:=
 if f=1 then termB k ts l else if f=2 then termZ k ts l else if f=3 then termC (k + 1) k ts l else if f=4 then termQ (k + 1) k ts l else termT (k + 1) k ts l

theorem form_cases {f:Int} (hf:1 ≤ f ∧ f ≤ 5):f=1 ∨ f=2 ∨ f=3 ∨ f=4 ∨ f=5:=by omega

theorem twoK {f:Int} {M:St} (hw:M.wf) (hf:1 ≤ f ∧ f ≤ 5) {k:Nat} {ts:List Bool} {l:Int} {e:Edge} (h:IsT f M k ts l e) (hl:l + (k:Nat)=M.n) (h0:0 ≤ l) (m:Nat) (hm:k ≤ m):unfS f M (m + 1) e=termK f k ts l:=by
 rcases form_cases hf with rfl | rfl | rfl | rfl | rfl
 ·exact two1 hw k ts l e h m hm
 ·exact two2 k ts l e h m hm
 ·exact two3 hw k ts l e h hl m k hm (Nat.le_refl _)
 ·exact two4 hw k ts l e h hl m k hm (Nat.le_refl _)
 ·exact two5 hw k ts l e h hl h0 m k hm (Nat.le_refl _)

theorem StoreRep.fine {F:Nat → Prop} {w:World} {sb:Nat} {M:St} (h:StoreRep F w sb M) (f:Int) (h9:M.n ≤ 9):Fine f M:=⟨h.wf,fun _ _ hl=>⟨(h.fit hl).lo.2.1,(h.fit hl).hi.2.1⟩,h9⟩

def termN (f:Int) (k:Nat) (bs:List Bool):Nat:=(partsTo (termK f k bs 0) (termK f k bs 0).size).length

theorem made_count {f:Int} {F:Nat → Prop} {w:World} {sb k:Nat} {M:St} {bs:List Bool} {x:Edge} (r:StoreRep F w sb M) (hf:1 ≤ f ∧ f ≤ 5) (hk:k ≤ 6) (hn:(0:Int) + (k:Nat)=M.n) (hl:bs.length=2 ^ k) (hm:MadeAt f M bs k 0 0 x) (hx:x.ok) :
  IsT f M k bs 0 x ∧ (reachL M.cs [x.to]).length=termN f k bs ∧ mayC M f x 0=0:=by
 have m:=hm.1
 rw [List.drop_zero,List.take_of_length_le (by omega)] at m
 have hld:=m.leads r.wf hf hn
 have hat:At f M x 0 (k + 1):=⟨hld,hx.2.1,by push_cast;omega⟩
 refine ⟨m,?_,?_⟩
 ·rw [← parts_count (r.fine f (by omega)) (k + 1) x 0 hat,twoK r.wf hf m hn (Int.le_refl _) k (Nat.le_refl _)]
  rfl
 ·unfold mayC
  have hb:isFormB f=true:=by rcases form_cases hf with rfl | rfl | rfl | rfl | rfl <;> rfl
  rw [if_neg (by rw [hb];simp),if_neg (by omega),if_neg (by rw [hld];simp)]

end Go.Proofs.YtpgcbmbnognieaaGreat
