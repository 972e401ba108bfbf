/-
  meter.scale.node: what a node weighs.
-/
import Derived.Test.YtpgcbmbnognieaaGreatPScaleM
namespace Go.Proofs.YtpgcbmbnognieaaGreat
set_option linter.unusedSimpArgs false
set_option linter.unusedVariables false
set_option maxHeartbeats 600000
open Go.RowKit

structure SCtx (F:Nat → Prop) (P:Int → Nat) (cb sb mb n:Nat) (f:Int) (ls hs:List Int) (M:St) (w:World) (S:List Int):Prop where
 rep:StoreRep F w sb M
 sc:ScaleAt w cb sb mb n f ls hs
 kept:KeptMap P w mb S
 nF:¬ F mb
 hn:M.n=(n:Int)

variable {F:Nat → Prop} {P:Int → Nat} {cb sb mb n:Nat} {f:Int} {ls hs:List Int} {M:St} {w:World} {S:List Int}

theorem SCtx.keeps {w':World} (h:SCtx F P cb sb mb n f ls hs M w S) (hk:Keeps w w'):SCtx F P cb sb mb n f ls hs M w' S:=
 ⟨h.rep.keeps hk,h.sc.keeps hk,h.kept.keeps hk,h.nF,h.hn⟩

theorem SCtx.turn {w':World} {S':List Int} (h:SCtx F P cb sb mb n f ls hs M w S) (hu:Upd (fun k=>k=mb) w w') (hk:KeptMap P w' mb S'):SCtx F P cb sb mb n f ls hs M w' S':=
 ⟨h.rep.keep hu (fun k hk e=>h.nF (e ▸ hk)),h.sc.map h.kept.block hu,hk,h.nF,h.hn⟩

def SumOut (F:Nat → Prop) (P:Int → Nat) (cb sb mb n:Nat) (f:Int) (ls hs:List Int) (M:St) (S:List Int) (v cnt:Nat) (W:World) (e:Ending) (W':World):Prop:=
 ∃ x S',e=.returned x ∧ NatV 0 W' v x ∧ SCtx F P cb sb mb n f ls hs M W' S' ∧ S'.length ≤ S.length + cnt ∧ Upd (fun k=>k=mb) W W'

theorem mul_len {u v a b:Nat} (hu:(natW B64 u).length ≤ a) (hv:(natW B64 v).length ≤ b):(natW B64 (u * v)).length ≤ a + b:=by
 have h1:=natW_lt b64_two hu
 have h2:=natW_lt b64_two hv
 refine natW_len b64_two ?_
 rw [Nat.pow_add]
 exact Nat.mul_lt_mul'' h1 h2

theorem add_len {u v a:Nat} (hu:(natW B64 u).length ≤ a) (hv:(natW B64 v).length ≤ a):(natW B64 (u + v)).length ≤ a + 1:=by
 have h1:=natW_lt b64_two hu
 have h2:=natW_lt b64_two hv
 refine natW_len b64_two ?_
 have h3:B64 ^ (a + 1)=B64 ^ a * B64:=Nat.pow_succ _ _
 have h4:B64 ^ a * 2 ≤ B64 ^ a * B64:=Nat.mul_le_mul_left _ (by decide)
 omega

theorem NatV.old {lo:Nat} {w w':World} {v:Nat} {x:Value} (h:NatV lo w v x) {mb:Nat} (hm:∃ es clock,w.heap[mb]?=some (.map es clock)) (hu:Upd (fun k=>k=mb) w w'):NatV 0 w' v x:=(h.map hm hu).le (Nat.zero_le _)

set_option maxRecDepth 100000 in
set_option maxHeartbeats 1000000 in
theorem snode_new (h:SCtx F P cb sb mb n f ls hs M w S) (id:Int) (hid0:0 ≤ id) (hid1:id ≤ 4294967295) (t b:Nat) (lo hi:Edge) (hlo:lo.ok) (hhi:hi.ok) (htb:t ≤ b) (hbn:b < n) (hno:id ∉ S) (cnt:Nat) (hcap:S.length + 2 * cnt ≤ 100000) (X Y:Nat) (hX:(natW B64 X).length ≤ 9) (hY:(natW B64 Y).length ≤ 9) (f15:f=1 ∨ f=2 ∨ f=4 ∨ f=5)
  (hP:P id=(prW (sideW ls hs true) t (b - t)).toNat * ((wtF ls b).toNat * X + (wtF hs b).toNat * Y))
  (ih0:∀ (W:World) (S':List Int),SCtx F P cb sb mb n f ls hs M W S' → S'.length ≤ S.length → Calls Tryz.prog 70 #[.pointer (some ⟨cb,0,none⟩),.agg #[.int .u8 lo.tag,.int .u32 lo.to],.int .i64 ((b:Int) + 1)] W (SumOut F P cb sb mb n f ls hs M S' X cnt W))
  (ih1:∀ (W:World) (S':List Int),SCtx F P cb sb mb n f ls hs M W S' → S'.length ≤ S.length + cnt → Calls Tryz.prog 70 #[.pointer (some ⟨cb,0,none⟩),.agg #[.int .u8 hi.tag,.int .u32 hi.to],.int .i64 ((b:Int) + 1)] W (SumOut F P cb sb mb n f ls hs M S' Y cnt W)) :
  Calls Tryz.prog 137 #[.pointer (some ⟨cb,0,none⟩),.int .u32 id,.agg #[.int .u8 f,.int .u8 (t:Int),.int .u8 (b:Int),.int .u8 lo.tag,.int .u32 lo.to,.int .u8 hi.tag,.int .u32 hi.to]] w (SumOut F P cb sb mb n f ls hs M S (P id) (2 * cnt + 1) w):=by
 have hLook:=h.kept.new hid0 hid1 hno
 have c4:=h.sc.c4
 have c1:=h.sc.c1
 have hcb:=lt_of_cell c4
 have h8:=h.sc.small
 have HC:=Lib.hid h
 have HLK:=Lib.hid hLook
 have I0:=Lib.hid ih0
 have I1:=Lib.hid ih1
 have HP:=Lib.hid hP
 have HX:=Lib.hid hX
 have HY:=Lib.hid hY
 have HNO:=Lib.hid hno
 have HWB:Hid (IntKind.i64.wrap ((b:Int) + 1)=(b:Int) + 1):=Lib.hid (by unfold IntKind.wrap;simp [IntKind.signed,IntKind.bits];omega)
 have gf3:(f == 3)=false:=by simp;omega
 clear h hLook ih0 ih1 hP hX hY hno f15
 dsimp only at hcb
 obtain ⟨o0,o1⟩:=hlo
 obtain ⟨o2,o3⟩:=hhi
 go_enter Tryz.func137,Tryz.ntmps137
 have hq:=HLK.out (w.alloc (.cells #[.int .u8 f,.int .u8 (t:Int),.int .u8 (b:Int),.int .u8 lo.tag,.int .u32 lo.to,.int .u8 hi.tag,.int .u32 hi.to] 125)) (by (exact kp))
 go_wp2_with fail
 go_region
 go_wp2_with fail
 obtain ⟨W1,hW1⟩:∃ W1,W1=(w.alloc (.cells #[.int .u8 f,.int .u8 (t:Int),.int .u8 (b:Int),.int .u8 lo.tag,.int .u32 lo.to,.int .u8 hi.tag,.int .u32 hi.to] 125)).drew:=⟨_,rfl⟩
 have kW1:Keeps w W1:=by rw [hW1];exact ((Keeps.refl w).alloc _).drew
 have z3:W1.cell? ⟨w.heap.size,3,none⟩=some (.int .u8 lo.tag):=by rw [hW1];simp [go_sem]
 have z4:W1.cell? ⟨w.heap.size,4,none⟩=some (.int .u32 lo.to):=by rw [hW1];simp [go_sem]
 have z5:W1.cell? ⟨w.heap.size,5,none⟩=some (.int .u8 hi.tag):=by rw [hW1];simp [go_sem]
 have z6:W1.cell? ⟨w.heap.size,6,none⟩=some (.int .u32 hi.to):=by rw [hW1];simp [go_sem]
 rw [← hW1]
 have nmb:¬ (w.heap.size=mb):=fun e=>by have:=HC.out.kept.lt;omega
 clear hW1 hq
 go_cut [11,12] (fun s11 s12 wx=>∃ (x y:Value) (S2:List Int),s11=x ∧ s12=y ∧ NatV 0 wx X x ∧ NatV 0 wx Y y ∧ SCtx F P cb sb mb n f ls hs M wx S2 ∧ S2.length ≤ S.length + 2 * cnt ∧ Upd (fun k=>k=mb) W1 wx)
 case first=>
  have HC1:=Lib.hid (HC.out.keeps kW1)
  go_region_held3 (fun w'=>w'.cell? ⟨w.heap.size,3,none⟩=some (.int .u8 lo.tag) ∧ w'.cell? ⟨w.heap.size,4,none⟩=some (.int .u32 lo.to) ∧ w'.cell? ⟨w.heap.size,5,none⟩=some (.int .u8 hi.tag) ∧ w'.cell? ⟨w.heap.size,6,none⟩=some (.int .u32 hi.to)) (go_keep) ((first
   | (go_at_call 70;have qq:=HC1;clear qq;(try rw [HWB.out]);refine (I0.out _ _ (HC1.out.keeps (by (exact kp))) (Nat.le_refl _)).mono ?_;rintro e' w3 ⟨x3,S3,rfl,hx3,hc3,hl3,hu3⟩;have HC3:=Lib.hid hc3;have HX3:=Lib.hid hx3;have z3:=hu3.cellAt nmb z3;have z4:=hu3.cellAt nmb z4;have z5:=hu3.cellAt nmb z5;have z6:=hu3.cellAt nmb z6;clear HC1 hc3 hx3)
   | (go_at_call 70;(try rw [HWB.out]);refine (I1.out _ _ (HC3.out.keeps (by (exact kp))) (by omega)).mono ?_;rintro e' w4 ⟨x4,S4,rfl,hx4,hc4,hl4,hu4⟩;have HC4:=Lib.hid hc4;have HX4:=Lib.hid hx4;have z3:=hu4.cellAt nmb z3;have z4:=hu4.cellAt nmb z4;have z5:=hu4.cellAt nmb z5;have z6:=hu4.cellAt nmb z6;clear hc4 hx4)))
  all_goals (try go_wp2_with fail)
  all_goals go_meet
  all_goals exact ⟨x3,x4,S4,rfl,rfl,HX3.out.old HC3.out.kept.block hu4,HX4.out,HC4.out,by omega,Upd.trans' (Upd.trans' (Upd.refl _ _).drew hu3) hu4⟩
 case rest=>
  obtain ⟨W2,rfl⟩:∃ W,W=wc:=⟨_,rfl⟩
  obtain ⟨x,y,S2,rfl,rfl,hx,hy,hc2,hl2,hu2⟩:=hcut
  obtain ⟨ax,cx,rfl,-,-⟩:=natV_len hx
  obtain ⟨ay,cy,rfl,-,-⟩:=natV_len hy
  have d1:=hc2.sc.c1
  have d4:=hc2.sc.c4
  have hcb2:=lt_of_cell d1
  obtain ⟨al,cl,k2,n2⟩:=hc2.sc.c2
  obtain ⟨ah,ch,k3,n3⟩:=hc2.sc.c3
  obtain ⟨p,hp⟩:∃ p,ls[b]?=some p:=⟨_,List.getElem?_eq_getElem (by rw [hc2.sc.len.1];exact hbn)⟩
  obtain ⟨q,hq⟩:∃ q,hs[b]?=some q:=⟨_,List.getElem?_eq_getElem (by rw [hc2.sc.len.2];exact hbn)⟩
  obtain ⟨b1,v1,ha1,e1,nv1⟩:=n2 b p hp
  obtain ⟨b2,v2,ha2,e2,nv2⟩:=n3 b q hq
  subst ha1
  subst ha2
  obtain ⟨A1,C1,rfl,-,-⟩:=natV_len nv1
  obtain ⟨A2,C2,rfl,-,-⟩:=natV_len nv2
  have r1:=wtF_range hc2.sc.words.1 b
  have r2:=wtF_range hc2.sc.words.2 b
  rw [wtF_at hp] at r1
  rw [wtF_at hq] at r2
  have hpl:(natW B64 p.toNat).length ≤ 1:=natW_len b64_two (by rw [Nat.pow_one];omega)
  have hql:(natW B64 q.toNat).length ≤ 1:=natW_len b64_two (by rw [Nat.pow_one];omega)
  have hP:=HP.out
  rw [wtF_at hp,wtF_at hq] at hP
  have HP2:=Lib.hid hP
  have HX2:=Lib.hid hx
  have HY2:=Lib.hid hy
  have HC2:=Lib.hid hc2
  have HV1:=Lib.hid nv1
  have HV2:=Lib.hid nv2
  have hb1:=lt_of_cell e1
  have hb2:=lt_of_cell e2
  have g0:(b:Int) < (n:Int):=by omega
  clear hp hq hx hy hc2 nv1 nv2 n2 n3 r1 r2 hP HP
  dsimp only at hcb2 hb1 hb2
  go_wp2_with fail
  go_cut [13] (fun s13 wy=>∃ z:Value,s13=z ∧ NatV 0 wy (p.toNat * X + q.toNat * Y) z ∧ Keeps W2 wy)
  case first=>
   go_region_held3 (fun w'=>w'.cell? ⟨cb,2,none⟩=some (.slice (some ⟨b1,0,none⟩) n cl) ∧ w'.cell? ⟨cb,3,none⟩=some (.slice (some ⟨b2,0,none⟩) n ch) ∧ w'.cell? ⟨b1,b,none⟩=some (.slice A1 (natW B64 p.toNat).length C1) ∧ w'.cell? ⟨b2,b,none⟩=some (.slice A2 (natW B64 q.toNat).length C2)) (go_keep) ((first
    | (go_at_call 138;have qq:=HV1;clear qq;refine (mmul_calls (HV1.out.keeps (by (exact kp))) (HX2.out.keeps (by (exact kp))) (by omega) (by have:=HX.out;omega)).mono ?_;rintro e' w5 ⟨z5,rfl,hz5,hk5⟩;have HZ5:=Lib.hid hz5;have k2:=hk5.cell k2;have k3:=hk5.cell k3;have e1:=hk5.cell e1;have e2:=hk5.cell e2;clear HV1 hz5)
    | (go_at_call 138;have qq:=HV2;clear qq;refine (mmul_calls (HV2.out.keeps (by (exact kp))) (HY2.out.keeps (by (exact kp))) (by omega) (by have:=HY.out;omega)).mono ?_;rintro e' w6 ⟨z6',rfl,hz6,hk6⟩;have HZ6:=Lib.hid hz6;have k2:=hk6.cell k2;have k3:=hk6.cell k3;have e1:=hk6.cell e1;have e2:=hk6.cell e2;clear HV2 hz6)
    | (go_at_call 196;refine (madd_calls (HZ5.out.keeps (by (exact kp))) (HZ6.out.keeps (by (exact kp))) (Nat.le_trans (mul_len hpl HX.out) (by decide)) (Nat.le_trans (mul_len hql HY.out) (by decide))).mono ?_;rintro e' w7 ⟨z7,rfl,hz7,hk7⟩;have HZ7:=Lib.hid hz7;have k2:=hk7.cell k2;have k3:=hk7.cell k3;have e1:=hk7.cell e1;have e2:=hk7.cell e2;clear hz7)))
   all_goals (try go_wp2_with fail)
   all_goals go_meet
   all_goals exact ⟨_,rfl,HZ7.out.le (Nat.zero_le _),by (exact kp)⟩
  case rest=>
   obtain ⟨W3,rfl⟩:∃ W,W=wc:=⟨_,rfl⟩
   obtain ⟨z,rfl,hz,hk3⟩:=hcut
   have hC3:=HC2.out.keeps hk3
   have HC3:=Lib.hid hC3
   have HPR:=Lib.hid (prod_calls hC3.sc t b (by omega) (by omega) true)
   have d1:=hC3.sc.c1
   have d4:=hC3.sc.c4
   have hcb3:=lt_of_cell d1
   have HZ:=Lib.hid hz
   have hzl:(natW B64 (p.toNat * X + q.toNat * Y)).length ≤ 11:=add_len (a:=10) (Nat.le_trans (mul_len hpl HX.out) (by decide)) (Nat.le_trans (mul_len hql HY.out) (by decide))
   have hprl:(natW B64 (prW (sideW ls hs true) t (b - t)).toNat).length ≤ 9:=small_words (prW_small (sideW_range hC3.sc.words.1 hC3.sc.words.2 true) t (b - t)).1 (prW_small (sideW_range hC3.sc.words.1 hC3.sc.words.2 true) t (b - t)).2 (by omega)
   have HZL:=Lib.hid hzl
   have HPL:=Lib.hid hprl
   have hu3:Upd (fun k=>k=mb) W1 W3:=Upd.trans' hu2 (hk3.upd _)
   have HU3:=Lib.hid hu3
   clear hC3 hz hzl hprl hu3 HV1 HV2 k2 k3 e1 e2
   dsimp only at hcb3
   go_wp2_with (first
    | (go_at_call 139;refine HPR.out.mono ?_;rintro e w8 ⟨z8,rfl,hz8,hk8⟩;have HZ8:=Lib.hid hz8;clear hz8)
    | (go_at_call 138;refine (mmul_calls HZ8.out (HZ.out.keeps hk8) (by have:=HPL.out;omega) (by have:=HZL.out;omega)).mono ?_;rintro e w9 ⟨z9,rfl,hz9,hk9⟩;rw [← HP2.out] at hz9;have hC9:=HC3.out.keeps (hk8.trans hk9);obtain ⟨w10,hrun,hkm,hu10⟩:=hC9.kept.put (by omega) hid0 hid1 (hz9.le (Nat.zero_le _));have d4:=hk9.cell (hk8.cell d4);have hcb9:=lt_of_cell d4;have HOUT:Hid (SumOut F P cb sb mb n f ls hs M S (P id) (2 * cnt + 1) w (.returned z9) w10):=Lib.hid ⟨z9,S2 ++ [id],rfl,(hz9.old hC9.kept.block hu10),hC9.turn hu10 hkm,by rw [List.length_append];show S2.length + 1 ≤ _;omega,Upd.trans' (Upd.trans' (kW1.upd _) HU3.out) (Upd.trans' ((hk8.trans hk9).upd _) hu10)⟩;clear hz9 hC9 hkm hu10)
    | fail)
   go_ret
   exact HOUT.out

set_option maxRecDepth 100000 in
set_option maxHeartbeats 1000000 in
theorem snode_three (h:SCtx F P cb sb mb n f ls hs M w S) (id:Int) (hid0:0 ≤ id) (hid1:id ≤ 4294967295) (t b:Nat) (lo hi:Edge) (hlo:lo.ok) (hhi:hi.ok) (htb:t ≤ b) (hbn:b < n) (hno:id ∉ S) (cnt:Nat) (hcap:S.length + 2 * cnt ≤ 100000) (X Y:Nat) (hX:(natW B64 X).length ≤ 9) (hY:(natW B64 Y).length ≤ 9) (f3:f=3)
  (hP:P id=(prW (sideW ls hs false) t (b + 1 - t)).toNat * X + ((prW (sideW ls hs true) t (b + 1 - t)).toNat - (prW (sideW ls hs false) t (b + 1 - t)).toNat) * Y)
  (ih0:∀ (W:World) (S':List Int),SCtx F P cb sb mb n f ls hs M W S' → S'.length ≤ S.length → Calls Tryz.prog 70 #[.pointer (some ⟨cb,0,none⟩),.agg #[.int .u8 lo.tag,.int .u32 lo.to],.int .i64 ((b:Int) + 1)] W (SumOut F P cb sb mb n f ls hs M S' X cnt W))
  (ih1:∀ (W:World) (S':List Int),SCtx F P cb sb mb n f ls hs M W S' → S'.length ≤ S.length + cnt → Calls Tryz.prog 70 #[.pointer (some ⟨cb,0,none⟩),.agg #[.int .u8 hi.tag,.int .u32 hi.to],.int .i64 ((b:Int) + 1)] W (SumOut F P cb sb mb n f ls hs M S' Y cnt W)) :
  Calls Tryz.prog 137 #[.pointer (some ⟨cb,0,none⟩),.int .u32 id,.agg #[.int .u8 f,.int .u8 (t:Int),.int .u8 (b:Int),.int .u8 lo.tag,.int .u32 lo.to,.int .u8 hi.tag,.int .u32 hi.to]] w (SumOut F P cb sb mb n f ls hs M S (P id) (2 * cnt + 1) w):=by
 have hLook:=h.kept.new hid0 hid1 hno
 have c4:=h.sc.c4
 have c1:=h.sc.c1
 have hcb:=lt_of_cell c4
 have h8:=h.sc.small
 have HC:=Lib.hid h
 have HLK:=Lib.hid hLook
 have I0:=Lib.hid ih0
 have I1:=Lib.hid ih1
 have HP:=Lib.hid hP
 have HX:=Lib.hid hX
 have HY:=Lib.hid hY
 have HNO:=Lib.hid hno
 have HWB:Hid (IntKind.i64.wrap ((b:Int) + 1)=(b:Int) + 1):=Lib.hid (by unfold IntKind.wrap;simp [IntKind.signed,IntKind.bits];omega)
 have gf3:(f == 3)=true:=by simp [f3]
 clear h hLook ih0 ih1 hP hX hY hno f3
 dsimp only at hcb
 obtain ⟨o0,o1⟩:=hlo
 obtain ⟨o2,o3⟩:=hhi
 go_enter Tryz.func137,Tryz.ntmps137
 have hq:=HLK.out (w.alloc (.cells #[.int .u8 f,.int .u8 (t:Int),.int .u8 (b:Int),.int .u8 lo.tag,.int .u32 lo.to,.int .u8 hi.tag,.int .u32 hi.to] 125)) (by (exact kp))
 go_wp2_with fail
 go_region
 go_wp2_with fail
 obtain ⟨W1,hW1⟩:∃ W1,W1=(w.alloc (.cells #[.int .u8 f,.int .u8 (t:Int),.int .u8 (b:Int),.int .u8 lo.tag,.int .u32 lo.to,.int .u8 hi.tag,.int .u32 hi.to] 125)).drew:=⟨_,rfl⟩
 have kW1:Keeps w W1:=by rw [hW1];exact ((Keeps.refl w).alloc _).drew
 have z3:W1.cell? ⟨w.heap.size,3,none⟩=some (.int .u8 lo.tag):=by rw [hW1];simp [go_sem]
 have z4:W1.cell? ⟨w.heap.size,4,none⟩=some (.int .u32 lo.to):=by rw [hW1];simp [go_sem]
 have z5:W1.cell? ⟨w.heap.size,5,none⟩=some (.int .u8 hi.tag):=by rw [hW1];simp [go_sem]
 have z6:W1.cell? ⟨w.heap.size,6,none⟩=some (.int .u32 hi.to):=by rw [hW1];simp [go_sem]
 rw [← hW1]
 have nmb:¬ (w.heap.size=mb):=fun e=>by have:=HC.out.kept.lt;omega
 clear hW1 hq
 go_cut [11,12] (fun s11 s12 wx=>∃ (x y:Value) (S2:List Int),s11=x ∧ s12=y ∧ NatV 0 wx X x ∧ NatV 0 wx Y y ∧ SCtx F P cb sb mb n f ls hs M wx S2 ∧ S2.length ≤ S.length + 2 * cnt ∧ Upd (fun k=>k=mb) W1 wx)
 case first=>
  have HC1:=Lib.hid (HC.out.keeps kW1)
  go_region_held3 (fun w'=>w'.cell? ⟨w.heap.size,3,none⟩=some (.int .u8 lo.tag) ∧ w'.cell? ⟨w.heap.size,4,none⟩=some (.int .u32 lo.to) ∧ w'.cell? ⟨w.heap.size,5,none⟩=some (.int .u8 hi.tag) ∧ w'.cell? ⟨w.heap.size,6,none⟩=some (.int .u32 hi.to)) (go_keep) ((first
   | (go_at_call 70;have qq:=HC1;clear qq;(try rw [HWB.out]);refine (I0.out _ _ (HC1.out.keeps (by (exact kp))) (Nat.le_refl _)).mono ?_;rintro e' w3 ⟨x3,S3,rfl,hx3,hc3,hl3,hu3⟩;have HC3:=Lib.hid hc3;have HX3:=Lib.hid hx3;have z3:=hu3.cellAt nmb z3;have z4:=hu3.cellAt nmb z4;have z5:=hu3.cellAt nmb z5;have z6:=hu3.cellAt nmb z6;clear HC1 hc3 hx3)
   | (go_at_call 70;(try rw [HWB.out]);refine (I1.out _ _ (HC3.out.keeps (by (exact kp))) (by omega)).mono ?_;rintro e' w4 ⟨x4,S4,rfl,hx4,hc4,hl4,hu4⟩;have HC4:=Lib.hid hc4;have HX4:=Lib.hid hx4;have z3:=hu4.cellAt nmb z3;have z4:=hu4.cellAt nmb z4;have z5:=hu4.cellAt nmb z5;have z6:=hu4.cellAt nmb z6;clear hc4 hx4)))
  all_goals (try go_wp2_with fail)
  all_goals go_meet
  all_goals exact ⟨x3,x4,S4,rfl,rfl,HX3.out.old HC3.out.kept.block hu4,HX4.out,HC4.out,by omega,Upd.trans' (Upd.trans' (Upd.refl _ _).drew hu3) hu4⟩
 case rest=>
  obtain ⟨W2,rfl⟩:∃ W,W=wc:=⟨_,rfl⟩
  obtain ⟨x,y,S2,rfl,rfl,hx,hy,hc2,hl2,hu2⟩:=hcut
  obtain ⟨ax,cx,rfl,-,-⟩:=natV_len hx
  obtain ⟨ay,cy,rfl,-,-⟩:=natV_len hy
  have d1:=hc2.sc.c1
  have d4:=hc2.sc.c4
  have hcb2:=lt_of_cell d1
  have HX2:=Lib.hid hx
  have HY2:=Lib.hid hy
  have HC2:=Lib.hid hc2
  have HQ0:=Lib.hid (fun (W:World) (hW:Keeps W2 W)=>prod_calls (hc2.sc.keeps hW) t (b + 1) (by omega) (by omega) false)
  have HQ1:=Lib.hid (fun (W:World) (hW:Keeps W2 W)=>prod_calls (hc2.sc.keeps hW) t (b + 1) (by omega) (by omega) true)
  have s0:=fun c=>sideW_range hc2.sc.words.1 hc2.sc.words.2 c
  have hq0l:(natW B64 (prW (sideW ls hs false) t (b + 1 - t)).toNat).length ≤ 9:=small_words (prW_small (s0 false) t _).1 (prW_small (s0 false) t _).2 (by omega)
  have hq1l:(natW B64 (prW (sideW ls hs true) t (b + 1 - t)).toNat).length ≤ 9:=small_words (prW_small (s0 true) t _).1 (prW_small (s0 true) t _).2 (by omega)
  have hle:(prW (sideW ls hs false) t (b + 1 - t)).toNat ≤ (prW (sideW ls hs true) t (b + 1 - t)).toNat:=Int.toNat_le_toNat (prW_le (fun j=>(s0 false j).1) (fun j=>by
   have h1:=wtF_range hc2.sc.words.2 j
   show wtF ls j ≤ wtF ls j + wtF hs j
   omega) t _)
  obtain ⟨Q0,hQ0⟩:∃ Q,Q=(prW (sideW ls hs false) t (b + 1 - t)).toNat:=⟨_,rfl⟩
  obtain ⟨Q1,hQ1⟩:∃ Q,Q=(prW (sideW ls hs true) t (b + 1 - t)).toNat:=⟨_,rfl⟩
  rw [← hQ0] at HQ0 HP hq0l hle
  rw [← hQ1] at HQ1 HP hq1l hle
  have hsl:(natW B64 (Q1 - Q0)).length ≤ 9:=natW_len b64_two (Nat.lt_of_le_of_lt (Nat.sub_le _ _) (natW_lt b64_two hq1l))
  have hlX:(natW B64 (Q0 * X)).length ≤ 18:=mul_len hq0l HX.out
  have hlY:(natW B64 ((Q1 - Q0) * Y)).length ≤ 18:=mul_len hsl HY.out
  have HL:=Lib.hid (And.intro hq0l (And.intro hq1l (And.intro hle (And.intro hsl (And.intro hlX hlY)))))
  clear hx hy hc2 s0 hq0l hq1l hle hsl hlX hlY hQ0 hQ1
  dsimp only at hcb2
  have ewb:((b + 1:Nat):Int)=(b:Int) + 1:=by omega
  rw [ewb] at HQ0 HQ1
  clear ewb
  go_wp2_with (first
   | (go_at_call 139;have qq:=HQ0;clear qq;refine (HQ0.out _ (Keeps.refl _)).mono ?_;rintro e w5 ⟨z5,rfl,hz5,hk5⟩;have HZ5:=Lib.hid hz5;have k5:Keeps W2 w5:=hk5;clear HQ0 hz5)
   | (go_at_call 139;refine (HQ1.out _ (by (exact kp))).mono ?_;rintro e w6 ⟨z6',rfl,hz6,hk6⟩;have HZ6:=Lib.hid hz6;clear hz6)
   | (go_at_call 195;refine (msub_calls HZ6.out (HZ5.out.keeps hk6) HL.out.2.2.1 (by have:=HL.out.2.1;omega) (by have:=HL.out.1;omega)).mono ?_;rintro e w7 ⟨z7,rfl,hz7,hk7⟩;have HZ7:=Lib.hid hz7;clear hz7)
   | (go_at_call 138;have qq:=HX2;clear qq;refine (mmul_calls (HZ5.out.keeps (hk6.trans hk7)) (HX2.out.keeps ((hk5.trans hk6).trans hk7)) (by have:=HL.out.1;omega) (by have:=HX.out;omega)).mono ?_;rintro e w8 ⟨z8,rfl,hz8,hk8⟩;have HZ8:=Lib.hid hz8;clear hz8 HX2)
   | (go_at_call 138;refine (mmul_calls (HZ7.out.keeps hk8) (HY2.out.keeps (((hk5.trans hk6).trans hk7).trans hk8)) (by have:=HL.out.2.2.2.1;omega) (by have:=HY.out;omega)).mono ?_;rintro e w9 ⟨z9,rfl,hz9,hk9⟩;have HZ9:=Lib.hid hz9;clear hz9)
   | (go_at_call 196;refine (madd_calls (HZ8.out.keeps hk9) HZ9.out (by have:=HL.out.2.2.2.2.1;omega) (by have:=HL.out.2.2.2.2.2;omega)).mono ?_;rintro e w10 ⟨z10,rfl,hz10,hk10⟩;rw [← HP.out] at hz10;have hk2a:=((((hk5.trans hk6).trans hk7).trans hk8).trans hk9).trans hk10;have hC9:=HC2.out.keeps hk2a;obtain ⟨w11,hrun,hkm,hu11⟩:=hC9.kept.put (by omega) hid0 hid1 (hz10.le (Nat.zero_le _));have d4:=hk2a.cell d4;have hcb9:=lt_of_cell d4;have HOUT:Hid (SumOut F P cb sb mb n f ls hs M S (P id) (2 * cnt + 1) w (.returned z10) w11):=Lib.hid ⟨z10,S2 ++ [id],rfl,(hz10.old hC9.kept.block hu11),hC9.turn hu11 hkm,by rw [List.length_append];show S2.length + 1 ≤ _;omega,Upd.trans' (Upd.trans' (kW1.upd _) hu2) (Upd.trans' (hk2a.upd _) hu11)⟩;clear hz10 hC9 hkm hu11)
   | fail)
  go_ret
  exact HOUT.out

theorem snode_met (h:SCtx F P cb sb mb n f ls hs M w S) (id:Int) (hid0:0 ≤ id) (hid1:id ≤ 4294967295) (r:Rec) (hin:id ∈ S) (cnt:Nat) :
  Calls Tryz.prog 137 #[.pointer (some ⟨cb,0,none⟩),.int .u32 id,.agg #[.int .u8 r.form,.int .u8 r.top,.int .u8 r.bot,.int .u8 r.lo.tag,.int .u32 r.lo.to,.int .u8 r.hi.tag,.int .u32 r.hi.to]] w (SumOut F P cb sb mb n f ls hs M S (P id) cnt w):=by
 obtain ⟨v,hv,hLook⟩:=h.kept.met hid0 hid1 hin
 have c4:=h.sc.c4
 have hcb:=lt_of_cell c4
 have HC:=Lib.hid h
 have HV:=Lib.hid hv
 have hq:=hLook (w.alloc (.cells #[.int .u8 r.form,.int .u8 r.top,.int .u8 r.bot,.int .u8 r.lo.tag,.int .u32 r.lo.to,.int .u8 r.hi.tag,.int .u32 r.hi.to] 125)) (by (exact kp))
 clear h hLook hv
 dsimp only at hcb
 go_enter Tryz.func137,Tryz.ntmps137
 go_wp2_with fail
 go_ret
 have hk:Keeps w (w.alloc (.cells #[.int .u8 r.form,.int .u8 r.top,.int .u8 r.bot,.int .u8 r.lo.tag,.int .u32 r.lo.to,.int .u8 r.hi.tag,.int .u32 r.hi.to] 125)):=(Keeps.refl w).alloc _
 exact ⟨v,S,rfl,HV.out.keeps hk,HC.out.keeps hk,by omega,hk.upd _⟩

end Go.Proofs.YtpgcbmbnognieaaGreat
