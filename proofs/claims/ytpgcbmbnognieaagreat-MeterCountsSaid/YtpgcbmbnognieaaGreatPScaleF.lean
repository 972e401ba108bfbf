/-
  meter.scale.edge: what an edge weighs.
-/
import Derived.Test.YtpgcbmbnognieaaGreatPScaleN
namespace Go.Proofs.YtpgcbmbnognieaaGreat
set_option linter.unusedSimpArgs false
set_option linter.unusedVariables false
set_option maxHeartbeats 600000
open Go.RowKit

variable {F:Nat → Prop} {P:Int → Nat} {cb sb mb n:Nat} {f:Int} {ls hs:List Int} {M:St} {w:World} {S:List Int}

set_option maxRecDepth 100000 in
theorem sedge_zero (h:SCtx F P cb sb mb n f ls hs M w S) (e:Edge) (hz:e.to=0) (l:Int) (cnt:Nat) :
  Calls Tryz.prog 70 #[.pointer (some ⟨cb,0,none⟩),.agg #[.int .u8 e.tag,.int .u32 e.to],.int .i64 l] w (SumOut F P cb sb mb n f ls hs M S 0 cnt w):=by
 have HC:=Lib.hid h
 obtain ⟨tg,to'⟩:=e
 simp only at hz
 subst hz
 clear h
 go_enter Tryz.func70,Tryz.ntmps70
 go_wp2_with fail
 go_ret
 have hk:Keeps w (w.alloc (.cells #[.int .u8 tg,.int .u32 0] 25)):=(Keeps.refl w).alloc _
 exact ⟨.slice none 0 0,S,rfl,natV_nil 0 _,HC.out.keeps hk,by omega,hk.upd _⟩

theorem freeI_form {f:Int} (hf:1 ≤ f ∧ f ≤ 5) (e:Edge) (l top:Int):(f=1 ∧ freeI f e l top=top) ∨ (f=3 ∧ freeI f e l top=top) ∨ (f=5 ∧ freeI f e l top=e.tag) ∨ ((f=2 ∨ f=4) ∧ freeI f e l top=l):=by
 unfold freeI
 have:f=1 ∨ f=2 ∨ f=3 ∨ f=4 ∨ f=5:=by omega
 rcases this with rfl | rfl | rfl | rfl | rfl
 ·exact .inl ⟨rfl,rfl⟩
 ·exact .inr (.inr (.inr ⟨.inl rfl,rfl⟩))
 ·exact .inr (.inl ⟨rfl,rfl⟩)
 ·exact .inr (.inr (.inr ⟨.inr rfl,rfl⟩))
 ·exact .inr (.inr (.inl ⟨rfl,rfl⟩))

set_option maxRecDepth 100000 in
set_option maxHeartbeats 1600000 in
theorem sedge_some (h:SCtx F P cb sb mb n f ls hs M w S) (e:Edge) (he:e.ok) (hz:e.to ≠ 0) (hf:1 ≤ f ∧ f ≤ 5) (l top c:Nat) (hlt:l ≤ top) (htn:top ≤ n) (hc:(c:Int)=freeI f e (l:Int) (top:Int)) (hlc:l ≤ c) (hct:c ≤ top) (cnt:Nat) (X:Nat) (hX:(natW B64 X).length ≤ 9) (ok:Bool) (r:Rec) (hr:r.ok)
  (hget:∀ W,Keeps w W → Calls Tryz.prog 80 #[.pointer (some ⟨sb,0,none⟩),.int .u32 e.to] W fun r' w'=>r'=.returned (.tuple #[.agg #[.int .u8 r.form,.int .u8 r.top,.int .u8 r.bot,.int .u8 r.lo.tag,.int .u32 r.lo.to,.int .u8 r.hi.tag,.int .u32 r.hi.to],.bool ok]) ∧ Keeps W w')
  (hno:ok=false → top=n ∧ X=1)
  (hyes:ok=true → r.top=(top:Int) ∧ ∀ W,SCtx F P cb sb mb n f ls hs M W S → Calls Tryz.prog 137 #[.pointer (some ⟨cb,0,none⟩),.int .u32 e.to,.agg #[.int .u8 r.form,.int .u8 r.top,.int .u8 r.bot,.int .u8 r.lo.tag,.int .u32 r.lo.to,.int .u8 r.hi.tag,.int .u32 r.hi.to]] W (SumOut F P cb sb mb n f ls hs M S X cnt W)) :
  Calls Tryz.prog 70 #[.pointer (some ⟨cb,0,none⟩),.agg #[.int .u8 e.tag,.int .u32 e.to],.int .i64 (l:Int)] w (SumOut F P cb sb mb n f ls hs M S ((prW (sideW ls hs true) l (c - l)).toNat * (prW (sideW ls hs false) c (top - c)).toNat * X) cnt w):=by
 have c0:=h.sc.c0
 have hcb:=lt_of_cell c0
 have hn8:=h.sc.small
 have hto:(e.to == 0)=false:=by simp [hz]
 have HC:=Lib.hid h
 have HG:=Lib.hid hget
 have HY:=Lib.hid hyes
 have HX:=Lib.hid hX
 have HFC:=Lib.hid hc
 have HFF:=Lib.hid hf
 have to0:=he.2.1
 have to1:=he.2.2
 have ta0:=he.1.1
 have ta1:=he.1.2
 have HR:=Lib.hid hr
 have hsb:=(h.rep.pos:sb < w.heap.size)
 clear h hget hyes hX hz hc hf he hr
 dsimp only at hcb
 go_enter Tryz.func70,Tryz.ntmps70
 go_wp2_with fail
 obtain ⟨W1,hW1⟩:∃ W1,W1=w.alloc (.cells #[.int .u8 e.tag,.int .u32 e.to] 25):=⟨_,rfl⟩
 have kW1:Keeps w W1:=by rw [hW1];exact (Keeps.refl w).alloc _
 have y0:W1.cell? ⟨w.heap.size,0,none⟩=some (.int .u8 e.tag):=by rw [hW1];simp [go_sem]
 have y1:W1.cell? ⟨w.heap.size,1,none⟩=some (.int .u32 e.to):=by rw [hW1];simp [go_sem]
 rw [← hW1]
 clear hW1
 have c0:=kW1.cell c0
 have hcb1:=lt_of_cell c0
 have hwl:=lt_of_cell y1
 dsimp only at hcb1 hwl
 have n4:W1.heap.size ≠ cb:=by omega
 have n5:W1.heap.size ≠ w.heap.size:=by omega
 go_cut [7,8] (fun s7 s8 wx=>∃ B,s7=.pointer (some ⟨B,0,none⟩) ∧ s8=.bool ok ∧ (wx.cell? ⟨B,0,none⟩=some (.int .u8 r.form) ∧ wx.cell? ⟨B,1,none⟩=some (.int .u8 r.top) ∧ wx.cell? ⟨B,2,none⟩=some (.int .u8 r.bot) ∧ wx.cell? ⟨B,3,none⟩=some (.int .u8 r.lo.tag) ∧ wx.cell? ⟨B,4,none⟩=some (.int .u32 r.lo.to) ∧ wx.cell? ⟨B,5,none⟩=some (.int .u8 r.hi.tag) ∧ wx.cell? ⟨B,6,none⟩=some (.int .u32 r.hi.to)) ∧ Keeps W1 wx)
 case first=>
  go_region_held3 (fun w'=>w'.cell? ⟨cb,0,none⟩=some (.pointer (some ⟨sb,0,none⟩)) ∧ w'.cell? ⟨w.heap.size,0,none⟩=some (.int .u8 e.tag) ∧ w'.cell? ⟨w.heap.size,1,none⟩=some (.int .u32 e.to)) (go_keep) ((first | (go_at_call 80;refine (HG.out _ (by (exact kp))).mono ?_;rintro e' w2 ⟨rfl,hb⟩;obtain ⟨hc,hf⟩:=hb.cells;have k2:Keeps W1 w2:=(by (exact kp));have v0:=k2.cell c0;have v1:=k2.cell y0;have v2:=k2.cell y1;have hsz2:=k2.size;have hn4:w2.heap.size ≠ cb:=(by omega);have hn5:w2.heap.size ≠ w.heap.size:=(by omega);have hz6:w.heap.size < w2.heap.size:=(by omega))))
  all_goals (try go_wp2_with fail)
  all_goals go_meet
  all_goals first
   | exact ⟨_,rfl,rfl,⟨by simp [go_sem],by simp [go_sem],by simp [go_sem],by simp [go_sem],by simp [go_sem],by simp [go_sem],by simp [go_sem]⟩,by (exact kp)⟩
   | (have q0:=hb.cell (a:=⟨W1.heap.size,0,none⟩) (v:=.int .u8 0) (by simp [go_sem]);have q1:=hb.cell (a:=⟨W1.heap.size,1,none⟩) (v:=.int .u8 0) (by simp [go_sem]);have q2:=hb.cell (a:=⟨W1.heap.size,2,none⟩) (v:=.int .u8 0) (by simp [go_sem]);have q3:=hb.cell (a:=⟨W1.heap.size,3,none⟩) (v:=.int .u8 0) (by simp [go_sem]);have q4:=hb.cell (a:=⟨W1.heap.size,4,none⟩) (v:=.int .u32 0) (by simp [go_sem]);have q5:=hb.cell (a:=⟨W1.heap.size,5,none⟩) (v:=.int .u8 0) (by simp [go_sem]);have q6:=hb.cell (a:=⟨W1.heap.size,6,none⟩) (v:=.int .u32 0) (by simp [go_sem]);exact ⟨_,rfl,rfl,⟨by simp [go_sem,q0],by simp [go_sem,q0,q1],by simp [go_sem,q0,q1,q2],by simp [go_sem,q0,q1,q2,q3],by simp [go_sem,q0,q1,q2,q3,q4],by simp [go_sem,q0,q1,q2,q3,q4,q5],by simp [go_sem,q0,q1,q2,q3,q4,q5,q6]⟩,by (exact kp)⟩)
 case rest=>
  obtain ⟨W2,rfl⟩:∃ W,W=wc:=⟨_,rfl⟩
  obtain ⟨B,rfl,rfl,⟨b0,b1,b2,b3,b4,b5,b6⟩,hkc⟩:=hcut
  have kW2:Keeps w W2:=kW1.trans hkc
  have z0:=hkc.cell y0
  have z1:=hkc.cell y1
  have k0:=hkc.cell c0
  have hcb2:=lt_of_cell k0
  have hwl2:=lt_of_cell z0
  have hBl:=lt_of_cell b0
  dsimp only at hcb2 hwl2 hBl
  have hC2:=HC.out.keeps kW2
  have HC2:=Lib.hid hC2
  have HV:=Lib.hid (fun (W:World) (hW:Keeps W2 W)=>store_vars (hC2.rep.keeps hW))
  have hMn:=hC2.hn
  rw [hMn] at HV
  have HQ1:=Lib.hid (fun (W:World) (S':List Int) (hW:SCtx F P cb sb mb n f ls hs M W S')=>prod_calls hW.sc l c (by omega) (by omega) true)
  have HQ2:=Lib.hid (fun (W:World) (S':List Int) (hW:SCtx F P cb sb mb n f ls hs M W S')=>prod_calls hW.sc c top (by omega) (by omega) false)
  have s0:=fun q=>sideW_range hC2.sc.words.1 hC2.sc.words.2 q
  have hq1l:(natW B64 (prW (sideW ls hs true) l (c - l)).toNat).length ≤ 9:=small_words (prW_small (s0 true) l _).1 (prW_small (s0 true) l _).2 (by omega)
  have hq2l:(natW B64 (prW (sideW ls hs false) c (top - c)).toNat).length ≤ 9:=small_words (prW_small (s0 false) c _).1 (prW_small (s0 false) c _).2 (by omega)
  obtain ⟨Q1,hQ1⟩:∃ Q,Q=(prW (sideW ls hs true) l (c - l)).toNat:=⟨_,rfl⟩
  obtain ⟨Q2,hQ2⟩:∃ Q,Q=(prW (sideW ls hs false) c (top - c)).toNat:=⟨_,rfl⟩
  rw [← hQ1] at HQ1 hq1l
  rw [← hQ2] at HQ2 hq2l
  have hmm:(natW B64 (Q1 * Q2)).length ≤ 18:=mul_len hq1l hq2l
  have HLL:=Lib.hid (And.intro hq1l (And.intro hq2l hmm))
  have HQE:=Lib.hid (And.intro hQ1 hQ2)
  rw [HFC.out] at HQ1 HQ2
  -- the tail: the products of what is left out, and the node's sum
  have tail:∀ (W:World) (S':List Int) (x:Value),SCtx F P cb sb mb n f ls hs M W S' → S'.length ≤ S.length + cnt → NatV 0 W X x → Upd (fun k=>k=mb) w W → True:=fun _ _ _ _ _ _ _=>True.intro
  clear tail s0 hq1l hq2l hmm hQ1 hQ2 hC2 c0 y0 y1
  have hff:=freeI_form HFF.out e (l:Int) (top:Int)
  cases ok with
  | false=>
   obtain ⟨rfl,rfl⟩:=hno rfl
   clear HY b0 b1 b2 b3 b4 b5 b6
   have hfc:=hff
   rcases hff with ⟨rfl,hfe⟩ | ⟨rfl,hfe⟩ | ⟨rfl,hfe⟩ | ⟨rfl | rfl,hfe⟩
   all_goals
    rw [hfe] at HQ1 HQ2
    have k1:=HC2.out.sc.c1
    clear hfe hfc
    go_wp2_with (first
     | (go_at_call 67;refine (HV.out _ (by (exact kp))).mono ?_;rintro e' w3 ⟨rfl,rfl⟩)
     | (go_at_call 135;refine (natOf_calls 1 _ (by decide)).mono ?_;rintro e' w4 ⟨x4,rfl,hx4,hk4⟩;have HX4:=Lib.hid hx4;have HC4:=Lib.hid (HC2.out.keeps hk4);have k1:=hk4.cell k1;have k0:=hk4.cell k0;have z0:=hk4.cell z0;have hcb4:=lt_of_cell k0;have hwl4:=lt_of_cell z0;clear hx4)
     | (go_at_call 139;have qq:=HQ1;clear qq;refine (HQ1.out _ _ HC4.out).mono ?_;rintro e' w5 ⟨x5,rfl,hx5,hk5⟩;have HX5:=Lib.hid hx5;have HC5:=Lib.hid (HC4.out.keeps hk5);clear hx5 HQ1)
     | (go_at_call 139;refine (HQ2.out _ _ HC5.out).mono ?_;rintro e' w6 ⟨x6,rfl,hx6,hk6⟩;have HX6:=Lib.hid hx6;clear hx6)
     | (go_at_call 138;have qq:=HX5;clear qq;refine (mmul_calls (HX5.out.keeps hk6) HX6.out (by have:=HLL.out.1;omega) (by have:=HLL.out.2.1;omega)).mono ?_;rintro e' w7 ⟨x7,rfl,hx7,hk7⟩;have HX7:=Lib.hid hx7;clear hx7 HX5)
     | (go_at_call 138;refine (mmul_calls HX7.out (HX4.out.keeps ((hk5.trans hk6).trans hk7)) (by have:=HLL.out.2.2;omega) (by have:=HX.out;omega)).mono ?_;rintro e' w8 ⟨x8,rfl,hx8,hk8⟩;have HX8:=Lib.hid hx8;clear hx8)
     | fail)
    go_ret
    rw [← HQE.out.1,← HQE.out.2]
    have hkall:=(((hk4.trans hk5).trans hk6).trans hk7).trans hk8
    exact ⟨x8,S,rfl,HX8.out.le (Nat.zero_le _),HC2.out.keeps hkall,by omega,(kW2.trans hkall).upd _⟩
  | true=>
   obtain ⟨hrt,hnode⟩:=HY.out rfl
   have HN:=Lib.hid hnode
   clear HY hnode hno
   have hrt1:r.top ≤ 8:=by omega
   have hrt0:0 ≤ r.top:=by omega
   have HRT:=Lib.hid hrt
   have HWT:Hid (IntKind.i64.wrap r.top=r.top):=Lib.hid (by unfold IntKind.wrap;simp [IntKind.signed,IntKind.bits];omega)
   clear hrt
   have k1:=HC2.out.sc.c1
   go_wp2_with (first
    | (go_at_call 67;refine (HV.out _ (by (exact kp))).mono ?_;rintro e' w3 ⟨rfl,rfl⟩)
    | (go_at_call 135;refine (natOf_calls 1 _ (by decide)).mono ?_;rintro e' w4 ⟨x4,rfl,-,hk4⟩;have k1:=hk4.cell k1;have k0:=hk4.cell k0;have z0:=hk4.cell z0;have z1:=hk4.cell z1;have hcb4:=lt_of_cell k0;have hwl4:=lt_of_cell z0;have d0:=hk4.cell b0;have d1:=hk4.cell b1;have d2:=hk4.cell b2;have d3:=hk4.cell b3;have d4:=hk4.cell b4;have d5:=hk4.cell b5;have d6:=hk4.cell b6;have hbl4:=lt_of_cell d0)
    | fail)
   have hC4:=HC2.out.keeps hk4
   have HC4:=Lib.hid hC4
   have kW4:=kW2.trans hk4
   have nm1:¬ (w.heap.size=mb):=cell_ne_map hC4.kept.block z0
   have nm2:¬ (B=mb):=cell_ne_map hC4.kept.block d0
   clear hC4 b0 b1 b2 b3 b4 b5 b6
   go_cut [9,10] (fun s9 s10 wx=>∃ (x:Value) (S2:List Int),s9=.int .i64 r.top ∧ s10=x ∧ NatV 0 wx X x ∧ SCtx F P cb sb mb n f ls hs M wx S2 ∧ S2.length ≤ S.length + cnt ∧ Upd (fun k=>k=mb) w4 wx)
   case first=>
    go_region_held3 (fun w'=>(w'.cell? ⟨B,0,none⟩=some (.int .u8 r.form) ∧ w'.cell? ⟨B,1,none⟩=some (.int .u8 r.top) ∧ w'.cell? ⟨B,2,none⟩=some (.int .u8 r.bot) ∧ w'.cell? ⟨B,3,none⟩=some (.int .u8 r.lo.tag) ∧ w'.cell? ⟨B,4,none⟩=some (.int .u32 r.lo.to) ∧ w'.cell? ⟨B,5,none⟩=some (.int .u8 r.hi.tag) ∧ w'.cell? ⟨B,6,none⟩=some (.int .u32 r.hi.to)) ∧ w'.cell? ⟨w.heap.size,0,none⟩=some (.int .u8 e.tag) ∧ w'.cell? ⟨w.heap.size,1,none⟩=some (.int .u32 e.to)) (go_keep) ((first | (go_at_call 137;refine (HN.out _ (HC4.out.keeps (by (exact kp)))).mono ?_;rintro e' w5 ⟨x5,S5,rfl,hx5,hc5,hl5,hu5⟩;have z0:=hu5.cellAt nm1 z0;have z1:=hu5.cellAt nm1 z1;have d0:=hu5.cellAt nm2 d0;have d1:=hu5.cellAt nm2 d1;have d2:=hu5.cellAt nm2 d2;have d3:=hu5.cellAt nm2 d3;have d4:=hu5.cellAt nm2 d4;have d5:=hu5.cellAt nm2 d5;have d6:=hu5.cellAt nm2 d6)))
    all_goals (try go_wp2_with fail)
    all_goals go_meet
    all_goals exact ⟨x5,S5,by first | rfl | rw [HWT.out],rfl,hx5,hc5,hl5,Upd.trans' (Upd.refl _ _).drew hu5⟩
   case rest=>
    obtain ⟨W5,rfl⟩:∃ W,W=wc:=⟨_,rfl⟩
    obtain ⟨x,S2,rfl,rfl,hx,hc5,hl5,hu5⟩:=hcut
    have HX5:=Lib.hid hx
    have HC5:=Lib.hid hc5
    have k1:=hc5.sc.c1
    have k0:=hc5.sc.c0
    have z0:=hu5.cellAt nm1 z0
    have z1:=hu5.cellAt nm1 z1
    have hcb5:=lt_of_cell k0
    have hwl5:=lt_of_cell z0
    clear hx hc5 d0 d1 d2 d3 d4 d5 d6
    dsimp only at hcb5 hwl5
    rw [HRT.out]
    clear hrt0 hrt1
    rcases hff with ⟨rfl,hfe⟩ | ⟨rfl,hfe⟩ | ⟨rfl,hfe⟩ | ⟨rfl | rfl,hfe⟩
    all_goals
     rw [hfe] at HQ1 HQ2
     clear hfe
     go_wp2_with (first
      | (go_at_call 139;have qq:=HQ1;clear qq;refine (HQ1.out _ _ HC5.out).mono ?_;rintro e' w6 ⟨x6,rfl,hx6,hk6⟩;have HX6:=Lib.hid hx6;have HC6:=Lib.hid (HC5.out.keeps hk6);clear hx6 HQ1)
      | (go_at_call 139;refine (HQ2.out _ _ HC6.out).mono ?_;rintro e' w7 ⟨x7,rfl,hx7,hk7⟩;have HX7:=Lib.hid hx7;clear hx7)
      | (go_at_call 138;have qq:=HX6;clear qq;refine (mmul_calls (HX6.out.keeps hk7) HX7.out (by have:=HLL.out.1;omega) (by have:=HLL.out.2.1;omega)).mono ?_;rintro e' w8 ⟨x8,rfl,hx8,hk8⟩;have HX8:=Lib.hid hx8;clear hx8 HX6)
      | (go_at_call 138;refine (mmul_calls HX8.out (HX5.out.keeps ((hk6.trans hk7).trans hk8)) (by have:=HLL.out.2.2;omega) (by have:=HX.out;omega)).mono ?_;rintro e' w9 ⟨x9,rfl,hx9,hk9⟩;have HX9:=Lib.hid hx9;clear hx9)
      | fail)
     go_ret
     rw [← HQE.out.1,← HQE.out.2]
     have hkall:=((hk6.trans hk7).trans hk8).trans hk9
     exact ⟨x9,S2,rfl,HX9.out.le (Nat.zero_le _),HC5.out.keeps hkall,hl5,Upd.trans' (Upd.trans' (kW4.upd _) hu5) (hkall.upd _)⟩

variable {F:Nat → Prop} {cb sb mb n:Nat} {f:Int} {ls hs:List Int} {M:St} {w:World} {S:List Int}

def topN (M:St) (id:Int):Nat:=match look M.cs id with
 | some r=>r.top.toNat
 | none=>M.n.toNat

def nodeW (ls hs:List Int) (M:St) (f:Int) (id:Int):Nat:=(wE (wtF ls) (wtF hs) M f ⟨0,id⟩ (topN M id:Int)).toNat

theorem wE_to {lo hi:Nat → Int} (h:M.wf) {e e':Edge} {r:Rec} {t:Nat} (he:e.to=e'.to) (hk:look M.cs e.to=some r) (hf:r.form=f) (ht:(t:Int)=r.top):wE lo hi M f e (t:Int)=wE lo hi M f e' (t:Int):=by
 have g1:=(h.goodRec hk).tb
 obtain ⟨b,hb⟩:∃ b:Nat,(b:Int)=r.bot:=⟨r.bot.toNat,by omega⟩
 by_cases h3:f=3
 ·subst h3
  rw [wE_chain h hk hf ht hb,wE_chain h (he ▸ hk) hf ht hb]
 ·rw [wE_node h hk hf h3 ht hb,wE_node h (he ▸ hk) hf h3 ht hb]

theorem wE_small (hl:WordsOk B64 ls) (hh:WordsOk B64 hs) (M:St) (f:Int) (e:Edge) (l:Int) (hd:(M.n - l).toNat ≤ 8):0 ≤ wE (wtF ls) (wtF hs) M f e l ∧ (natW B64 (wE (wtF ls) (wtF hs) M f e l).toNat).length ≤ 9:=by
 have h0:=wE_nonneg (fun j=>(wtF_range hl j).1) (fun j=>(wtF_range hh j).1) M f e l
 have h1:=wE_le (fun j=>(wtF_range hl j).1) (fun j=>(wtF_range hh j).1) M f e l
 have h2:=prW_small (sideW_range hl hh true) l.toNat (M.n - l).toNat
 exact ⟨h0,small_words h0 (Int.le_trans h1 h2.2) hd⟩

theorem SumOut.mono {P:Int → Nat} {v cnt cnt':Nat} {W W':World} {e:Ending} (h:SumOut F P cb sb mb n f ls hs M S v cnt W e W') (hc:cnt ≤ cnt'):SumOut F P cb sb mb n f ls hs M S v cnt' W e W':=by
 obtain ⟨x,S',h1,h2,h3,h4,h5⟩:=h
 exact ⟨x,S',h1,h2,h3,by omega,h5⟩

theorem edge_value (h:M.wf) (hl:WordsOk B64 ls) (hh:WordsOk B64 hs) (hf:1 ≤ f ∧ f ≤ 5) {e:Edge} {l top c:Nat} (hlt:l ≤ top) (htn:(top:Int) ≤ M.n) (hz:e.to ≠ 0) (hld:M.leads f e (l:Int)=true) (hk:look M.cs e.to=none ∨ ∃ r,look M.cs e.to=some r ∧ (top:Int) ≤ r.top) (hc:(c:Int)=freeI f e (l:Int) (top:Int)) (ht:f=5 → e.tag ≤ (top:Int)) :
  l ≤ c ∧ c ≤ top ∧ (wE (wtF ls) (wtF hs) M f e (l:Int)).toNat=(prW (sideW ls hs true) l (c - l)).toNat * (prW (sideW ls hs false) c (top - c)).toNat * (wE (wtF ls) (wtF hs) M f e (top:Int)).toNat:=by
 have hp8:f=5 → (l:Int) ≤ e.tag ∧ e.tag ≤ (top:Int):=fun h5=>by
  have:=(plainB_iff.1 (leads_iff.1 hld).1).2.2.2.2.2.2.2 h5 hz
  exact ⟨this.1,ht h5⟩
 obtain ⟨h1,h2,h3⟩:=out_split (lo:=wtF ls) (hi:=wtF hs) hf hlt hc hp8
 have h4:=wE_skips (lo:=wtF ls) (hi:=wtF hs) h htn hk (top - l) l (by omega) (Weak.of hld)
 refine ⟨h1,h2,?_⟩
 have a1:=(prW_small (sideW_range hl hh true) l (c - l)).1
 have a2:=(prW_small (sideW_range hl hh false) c (top - c)).1
 have a3:=wE_nonneg (fun j=>(wtF_range hl j).1) (fun j=>(wtF_range hh j).1) M f e (top:Int)
 have e1:prW (sideW ls hs true) l (c - l)=prW (bothW (wtF ls) (wtF hs)) l (c - l):=rfl
 have e2:prW (sideW ls hs false) c (top - c)=prW (wtF ls) c (top - c):=rfl
 rw [h4,h3,← e1,← e2]
 obtain ⟨A,hA⟩:=Int.eq_ofNat_of_zero_le a1
 obtain ⟨B,hB⟩:=Int.eq_ofNat_of_zero_le a2
 obtain ⟨C,hC⟩:=Int.eq_ofNat_of_zero_le a3
 rw [hA,hB,hC,← Int.natCast_mul,← Int.natCast_mul,Int.toNat_natCast,Int.toNat_natCast,Int.toNat_natCast,Int.toNat_natCast]

theorem node_value (h:M.wf) (hl:WordsOk B64 ls) (hh:WordsOk B64 hs) {e:Edge} {r:Rec} {t b:Nat} (hk:look M.cs e.to=some r) (hf:r.form=f) (h3:f ≠ 3) (ht:(t:Int)=r.top) (hb:(b:Int)=r.bot) :
  (wE (wtF ls) (wtF hs) M f e (t:Int)).toNat=(prW (sideW ls hs true) t (b - t)).toNat * ((wtF ls b).toNat * (wE (wtF ls) (wtF hs) M f r.lo ((b + 1:Nat):Int)).toNat + (wtF hs b).toNat * (wE (wtF ls) (wtF hs) M f r.hi ((b + 1:Nat):Int)).toNat):=by
 have n0:=fun j=>(wtF_range hl j).1
 have n1:=fun j=>(wtF_range hh j).1
 have a1:=(prW_small (sideW_range hl hh true) t (b - t)).1
 have e1:prW (sideW ls hs true) t (b - t)=prW (bothW (wtF ls) (wtF hs)) t (b - t):=rfl
 rw [wE_node h hk hf h3 ht hb,← e1]
 obtain ⟨A,hA⟩:=Int.eq_ofNat_of_zero_le a1
 obtain ⟨p,hp⟩:=Int.eq_ofNat_of_zero_le (n0 b)
 obtain ⟨q,hq⟩:=Int.eq_ofNat_of_zero_le (n1 b)
 obtain ⟨X,hX⟩:=Int.eq_ofNat_of_zero_le (wE_nonneg n0 n1 M f r.lo ((b + 1:Nat):Int))
 obtain ⟨Y,hY⟩:=Int.eq_ofNat_of_zero_le (wE_nonneg n0 n1 M f r.hi ((b + 1:Nat):Int))
 rw [hA,hp,hq,hX,hY,← Int.natCast_mul,← Int.natCast_mul,← Int.natCast_add,← Int.natCast_mul]
 simp only [Int.toNat_natCast]

theorem chain_value (h:M.wf) (hl:WordsOk B64 ls) (hh:WordsOk B64 hs) {e:Edge} {r:Rec} {t b:Nat} (hk:look M.cs e.to=some r) (hf:r.form=f) (h3:f=3) (ht:(t:Int)=r.top) (hb:(b:Int)=r.bot) :
  (wE (wtF ls) (wtF hs) M f e (t:Int)).toNat=(prW (sideW ls hs false) t (b + 1 - t)).toNat * (wE (wtF ls) (wtF hs) M f r.lo ((b + 1:Nat):Int)).toNat + ((prW (sideW ls hs true) t (b + 1 - t)).toNat - (prW (sideW ls hs false) t (b + 1 - t)).toNat) * (wE (wtF ls) (wtF hs) M f r.hi ((b + 1:Nat):Int)).toNat:=by
 subst h3
 have n0:=fun j=>(wtF_range hl j).1
 have n1:=fun j=>(wtF_range hh j).1
 have a1:=(prW_small (sideW_range hl hh true) t (b + 1 - t)).1
 have a2:=(prW_small (sideW_range hl hh false) t (b + 1 - t)).1
 have hle:prW (sideW ls hs false) t (b + 1 - t) ≤ prW (sideW ls hs true) t (b + 1 - t):=prW_le (fun j=>n0 j) (fun j=>by
  have:=n1 j
  show wtF ls j ≤ wtF ls j + wtF hs j
  omega) t _
 have e1:prW (sideW ls hs true) t (b + 1 - t)=prW (bothW (wtF ls) (wtF hs)) t (b + 1 - t):=rfl
 have e2:prW (sideW ls hs false) t (b + 1 - t)=prW (wtF ls) t (b + 1 - t):=rfl
 rw [wE_chain h hk hf ht hb,← e1,← e2]
 obtain ⟨A,hA⟩:=Int.eq_ofNat_of_zero_le a1
 obtain ⟨B,hB⟩:=Int.eq_ofNat_of_zero_le a2
 obtain ⟨X,hX⟩:=Int.eq_ofNat_of_zero_le (wE_nonneg n0 n1 M 3 r.lo ((b + 1:Nat):Int))
 obtain ⟨Y,hY⟩:=Int.eq_ofNat_of_zero_le (wE_nonneg n0 n1 M 3 r.hi ((b + 1:Nat):Int))
 rw [hA,hB] at hle
 have hle2:B ≤ A:=by exact_mod_cast hle
 rw [hA,hB,hX,hY]
 rw [show ((A:Int) - (B:Int))=((A - B:Nat):Int) by omega,← Int.natCast_mul,← Int.natCast_mul,← Int.natCast_add]
 simp only [Int.toNat_natCast]

set_option maxHeartbeats 1000000 in
theorem sedge_all (hf:1 ≤ f ∧ f ≤ 5) (hok:∀ id r,look M.cs id=some r → r.ok) (hwf:M.wf):∀ (K l:Nat) (e:Edge) (w:World) (S:List Int),n - l ≤ K → l ≤ n → e.ok → M.leads f e (l:Int)=true → SCtx F (nodeW ls hs M f) cb sb mb n f ls hs M w S → S.length + 2 ^ (n - l) ≤ 100000 →
  Calls Tryz.prog 70 #[.pointer (some ⟨cb,0,none⟩),.agg #[.int .u8 e.tag,.int .u32 e.to],.int .i64 (l:Int)] w (SumOut F (nodeW ls hs M f) cb sb mb n f ls hs M S (wE (wtF ls) (wtF hs) M f e (l:Int)).toNat (2 ^ (n - l) - 1) w):=by
 intro K
 induction K with
 | zero=>
  intro l e w S hK hln he hld h hcap
  have hl:=h.sc.words.1
  have hh:=h.sc.words.2
  have hn:=h.hn
  have h8:=h.sc.small
  by_cases hz:e.to=0
  ·rw [wE_no hz]
   exact sedge_zero h e hz (l:Int) _
  ·have hnone:look M.cs e.to=none:=by
    rcases (leads_iff.1 hld).2 with h2 | ⟨r,a,b,c,d⟩
    ·exact look_low h2
    ·have:=(hwf.goodRec a).tb
     have:=(hwf.goodRec a).bn
     omega
   have hfr:∃ c:Nat,(c:Int)=freeI f e (l:Int) ((n:Nat):Int):=⟨(freeI f e (l:Int) (n:Int)).toNat,by
    have:0 ≤ freeI f e (l:Int) (n:Int):=by
     unfold freeI
     split
     ·omega
     ·split
      ·exact he.1.1
      ·omega
    omega⟩
   obtain ⟨c,hc⟩:=hfr
   obtain ⟨v1,v2,v3⟩:=edge_value hwf hl hh hf (top:=n) hln (by omega) hz hld (.inl hnone) hc (fun h5=>by
    have:=(plainB_iff.1 (leads_iff.1 hld).1).2.2.2.2.2.2.2 h5 hz
    omega)
   rw [wE_end hz hn] at v3
   rw [v3]
   refine sedge_some h e he hz hf l n c hln (Nat.le_refl _) hc v1 v2 _ 1 ?_ false Rec.zero Rec.zero_ok (fun W hW=>?_) (fun _=>⟨rfl,rfl⟩) (fun e=>by cases e)
   ·exact Nat.le_trans (natW_len (k:=1) b64_two (by decide)) (by decide)
   ·have:=store_get (h.rep.keeps hW) e.to he.2.2
    rw [hnone] at this
    exact this
 | succ K ih=>
  intro l e w S hK hln he hld h hcap
  have hl:=h.sc.words.1
  have hh:=h.sc.words.2
  have hn:=h.hn
  have h8:=h.sc.small
  by_cases hz:e.to=0
  ·rw [wE_no hz]
   exact sedge_zero h e hz (l:Int) _
  have hfr:∀ top:Nat,∃ c:Nat,(c:Int)=freeI f e (l:Int) (top:Int):=fun top=>⟨(freeI f e (l:Int) (top:Int)).toNat,by
    have:0 ≤ freeI f e (l:Int) (top:Int):=by
     unfold freeI
     split
     ·omega
     ·split
      ·exact he.1.1
      ·omega
    omega⟩
  cases hlk:look M.cs e.to with
  | none=>
   obtain ⟨c,hc⟩:=hfr n
   obtain ⟨v1,v2,v3⟩:=edge_value hwf hl hh hf (top:=n) hln (by omega) hz hld (.inl hlk) hc (fun h5=>by
    have:=(plainB_iff.1 (leads_iff.1 hld).1).2.2.2.2.2.2.2 h5 hz
    omega)
   rw [wE_end hz hn] at v3
   rw [v3]
   refine sedge_some h e he hz hf l n c hln (Nat.le_refl _) hc v1 v2 _ 1 ?_ false Rec.zero Rec.zero_ok (fun W hW=>?_) (fun _=>⟨rfl,rfl⟩) (fun e=>by cases e)
   ·exact Nat.le_trans (natW_len (k:=1) b64_two (by decide)) (by decide)
   ·have:=store_get (h.rep.keeps hW) e.to he.2.2
    rw [hlk] at this
    exact this
  | some r=>
   obtain ⟨rf,rt,rg⟩:=leads_some hld hlk
   have g:=hwf.goodRec hlk
   have g1:=g.tb
   have g2:=g.bn
   have rok:=hok _ _ hlk
   obtain ⟨t,ht⟩:∃ t:Nat,(t:Int)=r.top:=⟨r.top.toNat,by omega⟩
   obtain ⟨b,hb⟩:∃ b:Nat,(b:Int)=r.bot:=⟨r.bot.toNat,by omega⟩
   obtain ⟨c,hc⟩:=hfr t
   obtain ⟨v1,v2,v3⟩:=edge_value hwf hl hh hf (top:=t) (by omega) (by omega) hz hld (.inr ⟨r,hlk,by omega⟩) hc (fun h5=>by omega)
   have hX:=wE_small hl hh M f e (t:Int) (by omega)
   have hPn:nodeW ls hs M f e.to=(wE (wtF ls) (wtF hs) M f e (t:Int)).toNat:=by
    unfold nodeW topN
    rw [hlk]
    simp only []
    rw [show r.top.toNat=t by omega]
    rw [wE_to hwf (e:=⟨0,e.to⟩) (e':=e) rfl hlk rf ht]
   rw [v3]
   refine sedge_some h e he hz hf l t c (by omega) (by omega) hc v1 v2 _ _ hX.2 true r rok (fun W hW=>?_) (fun e=>by cases e) (fun _=>⟨ht.symm,fun W hW=>?_⟩)
   ·have:=store_get (h.rep.keeps hW) e.to he.2.2
    rw [hlk] at this
    exact this
   ·rw [← hPn]
    by_cases hin:e.to ∈ S
    ·exact snode_met hW e.to he.2.1 he.2.2 r hin _
    ·have hp1:2 ^ (n - b)=2 * 2 ^ (n - (b + 1)):=by
      rw [show n - b=(n - (b + 1)) + 1 by omega,Nat.pow_succ]
      omega
     have hp2:2 ^ (n - b) ≤ 2 ^ (n - l):=Nat.pow_le_pow_right (by decide) (by omega)
     have hp3:=Nat.two_pow_pos (n - (b + 1))
     have hX0:=wE_small hl hh M f r.lo ((b + 1:Nat):Int) (by omega)
     have hX1:=wE_small hl hh M f r.hi ((b + 1:Nat):Int) (by omega)
     have glo:=g.lo
     have ghi:=g.hi
     rw [rf,← hb] at glo ghi
     have i0:∀ (W:World) (S':List Int),SCtx F (nodeW ls hs M f) cb sb mb n f ls hs M W S' → S'.length ≤ S.length → Calls Tryz.prog 70 #[.pointer (some ⟨cb,0,none⟩),.agg #[.int .u8 r.lo.tag,.int .u32 r.lo.to],.int .i64 ((b:Int) + 1)] W (SumOut F (nodeW ls hs M f) cb sb mb n f ls hs M S' (wE (wtF ls) (wtF hs) M f r.lo ((b + 1:Nat):Int)).toNat (2 ^ (n - (b + 1)) - 1) W):=fun W S' hW hS'=>by
      have q:=ih (b + 1) r.lo W S' (by omega) (by omega) rok.lo (by push_cast;exact glo) hW (by omega)
      rw [show ((b + 1:Nat):Int)=(b:Int) + 1 by omega] at q ⊢
      exact q
     have i1:∀ (W:World) (S':List Int),SCtx F (nodeW ls hs M f) cb sb mb n f ls hs M W S' → S'.length ≤ S.length + (2 ^ (n - (b + 1)) - 1) → Calls Tryz.prog 70 #[.pointer (some ⟨cb,0,none⟩),.agg #[.int .u8 r.hi.tag,.int .u32 r.hi.to],.int .i64 ((b:Int) + 1)] W (SumOut F (nodeW ls hs M f) cb sb mb n f ls hs M S' (wE (wtF ls) (wtF hs) M f r.hi ((b + 1:Nat):Int)).toNat (2 ^ (n - (b + 1)) - 1) W):=fun W S' hW hS'=>by
      have q:=ih (b + 1) r.hi W S' (by omega) (by omega) rok.hi (by push_cast;exact ghi) hW (by omega)
      rw [show ((b + 1:Nat):Int)=(b:Int) + 1 by omega] at q ⊢
      exact q
     rw [show (#[.int .u8 r.form,.int .u8 r.top,.int .u8 r.bot,.int .u8 r.lo.tag,.int .u32 r.lo.to,.int .u8 r.hi.tag,.int .u32 r.hi.to]:Array Value)=#[.int .u8 f,.int .u8 (t:Int),.int .u8 (b:Int),.int .u8 r.lo.tag,.int .u32 r.lo.to,.int .u8 r.hi.tag,.int .u32 r.hi.to] by rw [rf,ht,hb]]
     by_cases h3:f=3
     ·have hPv:=hPn.trans (chain_value hwf hl hh hlk rf h3 ht hb)
      exact (snode_three hW e.to he.2.1 he.2.2 t b r.lo r.hi rok.lo rok.hi (by omega) (by omega) hin _ (by omega) _ _ hX0.2 hX1.2 h3 hPv i0 i1).mono (fun _ _ hh2=>hh2.mono (by omega))
     ·have hPv:=hPn.trans (node_value hwf hl hh hlk rf h3 ht hb)
      exact (snode_new hW e.to he.2.1 he.2.2 t b r.lo r.hi rok.lo rok.hi (by omega) (by omega) hin _ (by omega) _ _ hX0.2 hX1.2 (by omega) hPv i0 i1).mono (fun _ _ hh2=>hh2.mono (by omega))

end Go.Proofs.YtpgcbmbnognieaaGreat
