/-
  meter.scale.edge: what an edge weighs.
-/
import Derived.Test.YtpgcbmbnognieaaGreatPScaleN
namespace Go.Proofs.YtpgcbmbnognieaaGreat
set_option linter.unusedSimpArgs false
set_option linter.unusedVariables false
set_option maxHeartbeats 600000
open Go.RowKit

variable {F:Nat → Prop} {P:Int → Nat} {cb sb mb n:Nat} {f:Int} {ls hs:List Int} {M:St} {w:World} {S:List Int}

set_option maxRecDepth 100000 in
theorem sedge_zero (h:SCtx F P cb sb mb n f ls hs M w S) (e:Edge) (hz:e.to=0) (l:Int) (cnt:Nat) :
  Calls Tryz.prog 70 #[.pointer (some ⟨cb,0,none⟩),.agg #[.int .u8 e.tag,.int .u32 e.to],.int .i64 l] w (SumOut F P cb sb mb n f ls hs M S 0 cnt w):=by
 have HC:=Lib.hid h
 obtain ⟨tg,to'⟩:=e
 simp only at hz
 subst hz
 clear h
 go_enter Tryz.func70,Tryz.ntmps70
 go_wp2_with fail
 go_ret
 have hk:Keeps w (w.alloc (.cells #[.int .u8 tg,.int .u32 0] 25)):=(Keeps.refl w).alloc _
 exact ⟨.slice none 0 0,S,rfl,natV_nil 0 _,HC.out.keeps hk,by omega,hk.upd _⟩

theorem freeI_form {f:Int} (hf:1 ≤ f ∧ f ≤ 5) (e:Edge) (l top:Int):(f=1 ∧ freeI f e l top=top) ∨ (f=3 ∧ freeI f e l top=top) ∨ (f=5 ∧ freeI f e l top=e.tag) ∨ ((f=2 ∨ f=4) ∧ freeI f e l top=l):=by
 unfold freeI
 have:f=1 ∨ f=2 ∨ f=3 ∨ f=4 ∨ f=5:=by omega
 rcases this with rfl | rfl | rfl | rfl | rfl
 ·exact .inl ⟨rfl,rfl⟩
 ·exact .inr (.inr (.inr ⟨.inl rfl,rfl⟩))
 ·exact .inr (.inl ⟨rfl,rfl⟩)
 ·exact .inr (.inr (.inr ⟨.inr rfl,rfl⟩))
 ·exact .inr (.inr (.inl ⟨rfl,rfl⟩))

set_option maxRecDepth 100000 in
set_option maxHeartbeats 1600000 in
theorem sedge_some (h:SCtx F P cb sb mb n f ls hs M w S) (e:Edge) (he:e.ok) (hz:e.to ≠ 0) (hf:1 ≤ f ∧ f ≤ 5) (l top c:Nat) (hlt:l ≤ top) (htn:top ≤ n) (hc:(c:Int)=freeI f e (l:Int) (top:Int)) (hlc:l ≤ c) (hct:c ≤ top) (cnt:Nat) (X:Nat) (hX:(natW B64 X).length ≤ 9) (ok:Bool) (r:Rec) (hr:r.ok)
  (hget:∀ W,Keeps w W → Calls Tryz.prog 80 #[.pointer (some ⟨sb,0,none⟩),.int .u32 e.to] W fun r' w'=>r'=.returned (.tuple #[.agg #[.int .u8 r.form,.int .u8 r.top,.int .u8 r.bot,.int .u8 r.lo.tag,.int .u32 r.lo.to,.int .u8 r.hi.tag,.int .u32 r.hi.to],.bool ok]) ∧ Keeps W w')
  (hno:ok=false → top=n ∧ X=1)
  (hyes:ok=true → r.top=(top:Int) ∧ ∀ W,SCtx F P cb sb mb n f ls hs M W S → Calls Tryz.prog 137 #[.pointer (some ⟨cb,0,none⟩),.int .u32 e.to,.agg #[.int .u8 r.form,.int .u8 r.top,.int .u8 r.bot,.int .u8 r.lo.tag,.int .u32 r.lo.to,.int .u8 r.hi.tag,.int .u32 r.hi.to]] W (SumOut F P cb sb mb n f ls hs M S X cnt W)) :
  Calls Tryz.prog 70 #[.pointer (some ⟨cb,0,none⟩),.agg #[.int .u8 e.tag,.int .u32 e.to],.int .i64 (l:Int)] w (SumOut F P cb sb mb n f ls hs M S ((prW (sideW ls hs true) l (c - l)).toNat * (prW (sideW ls hs false) c (top - c)).toNat * X) cnt w):=by
 have c0:=h.sc.c0
 have hcb:=lt_of_cell c0
 have hn8:=h.sc.small
 have hto:(e.to == 0)=false:=by simp [hz]
 have HC:=Lib.hid h
 have HG:=Lib.hid hget
 have HY:=Lib.hid hyes
 have HX:=Lib.hid hX
 have HFC:=Lib.hid hc
 have HFF:=Lib.hid hf
 have to0:=he.2.1
 have to1:=he.2.2
 have ta0:=he.1.1
 have ta1:=he.1.2
 have HR:=Lib.hid hr
 have hsb:=(h.rep.pos:sb < w.heap.size)
 clear h hget hyes hX hz hc hf he hr
 dsimp only at hcb
 go_enter Tryz.func70,Tryz.ntmps70
 go_wp2_with fail
 obtain ⟨W1,hW1⟩:∃ W1,W1=w.alloc (.cells #[.int .u8 e.tag,.int .u32 e.to] 25):=⟨_,rfl⟩
 have kW1:Keeps w W1:=by rw [hW1];exact (Keeps.refl w).alloc _
 have y0:W1.cell? ⟨w.heap.size,0,none⟩=some (.int .u8 e.tag):=by rw [hW1];simp [go_sem]
 have y1:W1.cell? ⟨w.heap.size,1,none⟩=some (.int .u32 e.to):=by rw [hW1];simp [go_sem]
 rw [← hW1]
 clear hW1
 have c0:=kW1.cell c0
 have hcb1:=lt_of_cell c0
 have hwl:=lt_of_cell y1
 dsimp only at hcb1 hwl
 have n4:W1.heap.size ≠ cb:=by omega
 have n5:W1.heap.size ≠ w.heap.size:=by omega
 go_cut [7,8] (fun s7 s8 wx=>∃ B,s7=.pointer (some ⟨B,0,none⟩) ∧ s8=.bool ok ∧ (wx.cell? ⟨B,0,none⟩=some (.int .u8 r.form) ∧ wx.cell? ⟨B,1,none⟩=some (.int .u8 r.top) ∧ wx.cell? ⟨B,2,none⟩=some (.int .u8 r.bot) ∧ wx.cell? ⟨B,3,none⟩=some (.int .u8 r.lo.tag) ∧ wx.cell? ⟨B,4,none⟩=some (.int .u32 r.lo.to) ∧ wx.cell? ⟨B,5,none⟩=some (.int .u8 r.hi.tag) ∧ wx.cell? ⟨B,6,none⟩=some (.int .u32 r.hi.to)) ∧ Keeps W1 wx)
 case first=>
  go_region_held3 (fun w'=>w'.cell? ⟨cb,0,none⟩=some (.pointer (some ⟨sb,0,none⟩)) ∧ w'.cell? ⟨w.heap.size,0,none⟩=some (.int .u8 e.tag) ∧ w'.cell? ⟨w.heap.size,1,none⟩=some (.int .u32 e.to)) (go_keep) ((first | (go_at_call 80;refine (HG.out _ (by (exact kp))).mono ?_;rintro e' w2 ⟨rfl,hb⟩;obtain ⟨hc,hf⟩:=hb.cells;have k2:Keeps W1 w2:=(by (exact kp));have v0:=k2.cell c0;have v1:=k2.cell y0;have v2:=k2.cell y1;have hsz2:=k2.size;have hn4:w2.heap.size ≠ cb:=(by omega);have hn5:w2.heap.size ≠ w.heap.size:=(by omega);have hz6:w.heap.size < w2.heap.size:=(by omega))))
  all_goals (try go_wp2_with fail)
  all_goals go_meet
  all_goals first
   | exact ⟨_,rfl,rfl,⟨by simp [go_sem],by simp [go_sem],by simp [go_sem],by simp [go_sem],by simp [go_sem],by simp [go_sem],by simp [go_sem]⟩,by (exact kp)⟩
   | (have q0:=hb.cell (a:=⟨W1.heap.size,0,none⟩) (v:=.int .u8 0) (by simp [go_sem]);have q1:=hb.cell (a:=⟨W1.heap.size,1,none⟩) (v:=.int .u8 0) (by simp [go_sem]);have q2:=hb.cell (a:=⟨W1.heap.size,2,none⟩) (v:=.int .u8 0) (by simp [go_sem]);have q3:=hb.cell (a:=⟨W1.heap.size,3,none⟩) (v:=.int .u8 0) (by simp [go_sem]);have q4:=hb.cell (a:=⟨W1.heap.size,4,none⟩) (v:=.int .u32 0) (by simp [go_sem]);have q5:=hb.cell (a:=⟨W1.heap.size,5,none⟩) (v:=.int .u8 0) (by simp [go_sem]);have q6:=hb.cell (a:=⟨W1.heap.size,6,none⟩) (v:=.int .u32 0) (by simp [go_sem]);exact ⟨_,rfl,rfl,⟨by simp [go_sem,q0],by simp [go_sem,q0,q1],by simp [go_sem,q0,q1,q2],by simp [go_sem,q0,q1,q2,q3],by simp [go_sem,q0,q1,q2,q3,q4],by simp [go_sem,q0,q1,q2,q3,q4,q5],by simp [go_sem,q0,q1,q2,q3,q4,q5,q6]⟩,by (exact kp)⟩)
 case rest=>
  obtain ⟨W2,rfl⟩:∃ W,W=wc:=⟨_,rfl⟩
  obtain ⟨B,rfl,rfl,⟨b0,b1,b2,b3,b4,b5,b6⟩,hkc⟩:=hcut
  have kW2:Keeps w W2:=kW1.trans hkc
  have z0:=hkc.cell y0
  have z1:=hkc.cell y1
  have k0:=hkc.cell c0
  have hcb2:=lt_of_cell k0
  have hwl2:=lt_of_cell z0
  have hBl:=lt_of_cell b0
  dsimp only at hcb2 hwl2 hBl
  have hC2:=HC.out.keeps kW2
  have HC2:=Lib.hid hC2
  have HV:=Lib.hid (fun (W:World) (hW:Keeps W2 W)=>store_vars (hC2.rep.keeps hW))
  have hMn:=hC2.hn
  rw [hMn] at HV
  have HQ1:=Lib.hid (fun (W:World) (S':List Int) (hW:SCtx F P cb sb mb n f ls hs M W S')=>prod_calls hW.sc l c (by omega) (by omega) true)
  have HQ2:=Lib.hid (fun (W:World) (S':List Int) (hW:SCtx F P cb sb mb n f ls hs M W S')=>prod_calls hW.sc c top (by omega) (by omega) false)
  have s0:=fun q=>sideW_range hC2.sc.words.1 hC2.sc.words.2 q
  have hq1l:(natW B64 (prW (sideW ls hs true) l (c - l)).toNat).length ≤ 9:=small_words (prW_small (s0 true) l _).1 (prW_small (s0 true) l _).2 (by omega)
  have hq2l:(natW B64 (prW (sideW ls hs false) c (top - c)).toNat).length ≤ 9:=small_words (prW_small (s0 false) c _).1 (prW_small (s0 false) c _).2 (by omega)
  obtain ⟨Q1,hQ1⟩:∃ Q,Q=(prW (sideW ls hs true) l (c - l)).toNat:=⟨_,rfl⟩
  obtain ⟨Q2,hQ2⟩:∃ Q,Q=(prW (sideW ls hs false) c (top - c)).toNat:=⟨_,rfl⟩
  rw [← hQ1] at HQ1 hq1l
  rw [← hQ2] at HQ2 hq2l
  have hmm:(natW B64 (Q1 * Q2)).length ≤ 18:=mul_len hq1l hq2l
  have HLL:=Lib.hid (And.intro hq1l (And.intro hq2l hmm))
  have HQE:=Lib.hid (And.intro hQ1 hQ2)
  rw [HFC.out] at HQ1 HQ2
  -- the tail: the products of what is left out, and the node's sum
  have tail:∀ (W:World) (S':List Int) (x:Value),SCtx F P cb sb mb n f ls hs M W S' → S'.length ≤ S.length + cnt → NatV 0 W X x → Upd (fun k=>k=mb) w W → True:=fun _ _ _ _ _ _ _=>True.intro
  clear tail s0 hq1l hq2l hmm hQ1 hQ2 hC2 c0 y0 y1
  have hff:=freeI_form HFF.out e (l:Int) (top:Int)
  cases ok with
  | false=>
   obtain ⟨rfl,rfl⟩:=hno rfl
   clear HY b0 b1 b2 b3 b4 b5 b6
   have hfc:=hff
   rcases hff with ⟨rfl,hfe⟩ | ⟨rfl,hfe⟩ | ⟨rfl,hfe⟩ | ⟨rfl | rfl,hfe⟩
   all_goals
    rw [hfe] at HQ1 HQ2
    have k1:=HC2.out.sc.c1
    clear hfe hfc
    go_wp2_with (first
     | (go_at_call 67;refine (HV.out _ (by (exact kp))).mono ?_;rintro e' w3 ⟨rfl,rfl⟩)
     | (go_at_call 135;refine (natOf_calls 1 _ (by decide)).mono ?_;rintro e' w4 ⟨x4,rfl,hx4,hk4⟩;have HX4:=Lib.hid hx4;have HC4:=Lib.hid (HC2.out.keeps hk4);have k1:=hk4.cell k1;have k0:=hk4.cell k0;have z0:=hk4.cell z0;have hcb4:=lt_of_cell k0;have hwl4:=lt_of_cell z0;clear hx4)
     | (go_at_call 139;have qq:=HQ1;clear qq;refine (HQ1.out _ _ HC4.out).mono ?_;rintro e' w5 ⟨x5,rfl,hx5,hk5⟩;have HX5:=Lib.hid hx5;have HC5:=Lib.hid (HC4.out.keeps hk5);clear hx5 HQ1)
     | (go_at_call 139;refine (HQ2.out _ _ HC5.out).mono ?_;rintro e' w6 ⟨x6,rfl,hx6,hk6⟩;have HX6:=Lib.hid hx6;clear hx6)
     | (go_at_call 138;have qq:=HX5;clear qq;refine (mmul_calls (HX5.out.keeps hk6) HX6.out (by have:=HLL.out.1;omega) (by have:=HLL.out.2.1;omega)).mono ?_;rintro e' w7 ⟨x7,rfl,hx7,hk7⟩;have HX7:=Lib.hid hx7;clear hx7 HX5)
     | (go_at_call 138;refine (mmul_calls HX7.out (HX4.out.keeps ((hk5.trans hk6).trans hk7)) (by have:=HLL.out.2.2;omega) (by have:=HX.out;omega)).mono ?_;rintro e' w8 ⟨x8,rfl,hx8,hk8⟩;have HX8:=Lib.hid hx8;clear hx8)
     | fail)
    go_ret
    rw [← HQE.out.1,← HQE.out.2]
    have hkall:=(((hk4.trans hk5).trans hk6).trans hk7).trans hk8
    exact ⟨x8,S,rfl,HX8.out.le (Nat.zero_le _),HC2.out.keeps hkall,by omega,(kW2.trans hkall).upd _⟩
  | true=>
   obtain ⟨hrt,hnode⟩:=HY.out rfl
   have HN:=Lib.hid hnode
   clear HY hnode hno
   have hrt1:r.top ≤ 8:=by omega
   have hrt0:0 ≤ r.top:=by omega
   have HRT:=Lib.hid hrt
   have HWT:Hid (IntKind.i64.wrap r.top=r.top):=Lib.hid (by unfold IntKind.wrap;simp [IntKind.signed,IntKind.bits];omega)
   clear hrt
   have k1:=HC2.out.sc.c1
   go_wp2_with (first
    | (go_at_call 67;refine (HV.out _ (by (exact kp))).mono ?_;rintro e' w3 ⟨rfl,rfl⟩)
    | (go_at_call 135;refine (natOf_calls 1 _ (by decide)).mono ?_;rintro e' w4 ⟨x4,rfl,-,hk4⟩;have k1:=hk4.cell k1;have k0:=hk4.cell k0;have z0:=hk4.cell z0;have z1:=hk4.cell z1;have hcb4:=lt_of_cell k0;have hwl4:=lt_of_cell z0;have d0:=hk4.cell b0;have d1:=hk4.cell b1;have d2:=hk4.cell b2;have d3:=hk4.cell b3;have d4:=hk4.cell b4;have d5:=hk4.cell b5;have d6:=hk4.cell b6;have hbl4:=lt_of_cell d0)
    | fail)
   have hC4:=HC2.out.keeps hk4
   have HC4:=Lib.hid hC4
   have kW4:=kW2.trans hk4
   have nm1:¬ (w.heap.size=mb):=cell_ne_map hC4.kept.block z0
   have nm2:¬ (B=mb):=cell_ne_map hC4.kept.block d0
   clear hC4 b0 b1 b2 b3 b4 b5 b6
   go_cut [9,10] (fun s9 s10 wx=>∃ (x:Value) (S2:List Int),s9=.int .i64 r.top ∧ s10=x ∧ NatV 0 wx X x ∧ SCtx F P cb sb mb n f ls hs M wx S2 ∧ S2.length ≤ S.length + cnt ∧ Upd (fun k=>k=mb) w4 wx)
   case first=>
    go_region_held3 (fun w'=>(w'.cell? ⟨B,0,none⟩=some (.int .u8 r.form) ∧ w'.cell? ⟨B,1,none⟩=some (.int .u8 r.top) ∧ w'.cell? ⟨B,2,none⟩=some (.int .u8 r.bot) ∧ w'.cell? ⟨B,3,none⟩=some (.int .u8 r.lo.tag) ∧ w'.cell? ⟨B,4,none⟩=some (.int .u32 r.lo.to) ∧ w'.cell? ⟨B,5,none⟩=some (.int .u8 r.hi.tag) ∧ w'.cell? ⟨B,6,none⟩=some (.int .u32 r.hi.to)) ∧ w'.cell? ⟨w.heap.size,0,none⟩=some (.int .u8 e.tag) ∧ w'.cell? ⟨w.heap.size,1,none⟩=some (.int .u32 e.to)) (go_keep) ((first | (go_at_call 137;refine (HN.out _ (HC4.out.keeps (by (exact kp)))).mono ?_;rintro e' w5 ⟨x5,S5,rfl,hx5,hc5,hl5,hu5⟩;have z0:=hu5.cellAt nm1 z0;have z1:=hu5.cellAt nm1 z1;have d0:=hu5.cellAt nm2 d0;have d1:=hu5.cellAt nm2 d1;have d2:=hu5.cellAt nm2 d2;have d3:=hu5.cellAt nm2 d3;have d4:=hu5.cellAt nm2 d4;have d5:=hu5.cellAt nm2 d5;have d6:=hu5.cellAt nm2 d6)))
    all_goals (try go_wp2_with fail)
    all_goals go_meet
    all_goals exact ⟨x5,S5,by first | rfl | rw [HWT.out],rfl,hx5,hc5,hl5,Upd.trans' (Upd.refl _ _).drew hu5⟩
   case rest=>
    obtain ⟨W5,rfl⟩:∃ W,W=wc:=⟨_,rfl⟩
    obtain ⟨x,S2,rfl,rfl,hx,hc5,hl5,hu5⟩:=hcut
    have HX5:=Lib.hid hx
    have HC5:=Lib.hid hc5
    have k1:=hc5.sc.c1
    have k0:=hc5.sc.c0
    have z0:=hu5.cellAt nm1 z0
    have z1:=hu5.cellAt nm1 z1
    have hcb5:=lt_of_cell k0
    have hwl5:=lt_of_cell z0
    clear hx hc5 d0 d1 d2 d3 d4 d5 d6
    dsimp only at hcb5 hwl5
    rw [HRT.out]
    clear hrt0 hrt1
    rcases hff with ⟨rfl,hfe⟩ | ⟨rfl,hfe⟩ | ⟨rfl,hfe⟩ | ⟨rfl | rfl,hfe⟩
    all_goals
     rw [hfe] at HQ1 HQ2
     clear hfe
     go_wp2_with (first
      | (go_at_call 139;have qq:=HQ1;clear qq;refine (HQ1.out _ _ HC5.out).mono ?_;rintro e' w6 ⟨x6,rfl,hx6,hk6⟩;have HX6:=Lib.hid hx6;have HC6:=Lib.hid (HC5.out.keeps hk6);clear hx6 HQ1)
      | (go_at_call 139;refine (HQ2.out _ _ HC6.out).mono ?_;rintro e' w7 ⟨x7,rfl,hx7,hk7⟩;have HX7:=Lib.hid hx7;clear hx7)
      | (go_at_call 138;have qq:=HX6;clear qq;refine (mmul_calls (HX6.out.keeps hk7) HX7.out (by have:=HLL.out.1;omega) (by have:=HLL.out.2.1;omega)).mono ?_;rintro e' w8 ⟨x8,rfl,hx8,hk8⟩;have HX8:=Lib.hid hx8;clear hx8 HX6)
      | (go_at_call 138;refine (mmul_calls HX8.out (HX5.out.keeps ((hk6.trans hk7).trans hk8)) (by have:=HLL.out.2.2;omega) (by have:=HX.out;omega)).mono ?_;rintro e' w9 ⟨x9,rfl,hx9,hk9⟩;have HX9:=Lib.hid hx9;clear hx9)
      | fail)
     go_ret
     rw [← HQE.out.1,← HQE.out.2]
     have hkall:=((hk6.trans hk7).trans hk8).trans hk9
     exact ⟨x9,S2,rfl,HX9.out.le (Nat.zero_le _),HC5.out.keeps hkall,hl5,Upd.trans' (Upd.trans' (kW4.upd _) hu5) (hkall.upd _)⟩

end Go.Proofs.YtpgcbmbnognieaaGreat
