/-
  Unfold of law12 over the state (printed by wip/mk_unfold.py).
-/
import Derived.Test.YtfpjogpjocedaaaGreatPRightA
namespace Go.Proofs.YtfpjogpjocedaaaGreat
set_option linter.unusedSimpArgs false
set_option linter.unusedVariables false
set_option maxHeartbeats 600000
open Go.RowKit

theorem unfB_deep (sb:Nat) (e:Edge) (w:World):Calls Tryz.prog 107 #[.pointer (some ⟨sb,0,none⟩),.agg #[.int .u8 e.tag,.int .u32 e.to],.int .i64 (-1)] w fun r w'=>r=.returned (.string ⟨#[63]⟩) ∧ Keeps w w':=by
 go_enter Tryz.func107,Tryz.ntmps107
 go_wp2
 go_ret
 exact ⟨rfl,by (exact kp)⟩

theorem unfB_leaf (sb:Nat) (e:Edge) (d:Int) (w:World) (hd:0 ≤ d) (he:e.ok) (ht:e.to < 2):Calls Tryz.prog 107 #[.pointer (some ⟨sb,0,none⟩),.agg #[.int .u8 e.tag,.int .u32 e.to],.int .i64 d] w fun r w'=>r=.returned (.string (digS e.to)) ∧ Keeps w w':=by
 have h0:0 ≤ e.to:=he.2.1
 have HN:=Lib.hid (fun W=>num_calls e.to W h0 (by omega))
 go_enter Tryz.func107,Tryz.ntmps107
 go_wp2_with (first | (go_at_call 138;refine (HN.out _).mono ?_;rintro e2 w1 ⟨rfl,hk⟩) | fail)
 go_ret
 exact ⟨rfl,by (exact kp)⟩

set_option maxRecDepth 100000 in
theorem unfB_node {F:Nat → Prop} {w:World} {sb:Nat} {M:St} (h:StoreRep F w sb M) (hn9:M.n ≤ 9) (e:Edge) (d:Int) (n:Nat) (hd:0 ≤ d) (hd2:d ≤ 100) (hn20:n ≤ 20) (he:e.ok) (ht:¬ e.to < 2)
  (hu:∀ (e':Edge) (W:World),Keeps w W → e'.ok → Calls Tryz.prog 107 #[.pointer (some ⟨sb,0,none⟩),.agg #[.int .u8 e'.tag,.int .u32 e'.to],.int .i64 (d - 1)] W fun r w'=>r=.returned (.string (unfS 1 M n e')) ∧ Keeps W w') :
  Calls Tryz.prog 107 #[.pointer (some ⟨sb,0,none⟩),.agg #[.int .u8 e.tag,.int .u32 e.to],.int .i64 d] w fun r w'=>r=.returned (.string (unfS 1 M (n + 1) e)) ∧ Keeps w w':=by
 have hs:unfS 1 M (n + 1) e=(let r:=grec (look M.cs e.to);⟨#[40]⟩ ++ digS r.top ++ ⟨#[32]⟩ ++ unfS 1 M n r.lo ++ ⟨#[32]⟩ ++ unfS 1 M n r.hi ++ ⟨#[41]⟩):=by
  show (if (1:Int)=5 then _ else if e.to < 2 then _ else _)=_
  rw [if_neg (by decide),if_neg ht]
  rw [if_neg (by decide)]
 rw [hs]
 have hg:=fun (W:World) (hW:Keeps w W)=>store_get (h.keeps hW) e.to he.2.2
 have hsm:=grec_small h.wf hn9 e.to
 have hok:=h.grec e.to
 obtain ⟨r,hr⟩:∃ r,r=grec (look M.cs e.to):=⟨_,rfl⟩
 obtain ⟨b,hb⟩:∃ b,b=gsome (look M.cs e.to):=⟨_,rfl⟩
 simp only [← hr,← hb] at hg hsm hok ⊢
 have t0:0 ≤ r.top:=hok.top.1
 have t1:r.top ≤ 255:=hok.top.2
 have b0:0 ≤ r.bot:=hok.bot.1
 have b1:r.bot ≤ 255:=hok.bot.2
 have HG:=Lib.hid hg
 have HNT:=Lib.hid (fun W=>num_calls r.top W t0 hsm.1)
 have HNB:=Lib.hid (fun W=>num_calls r.bot W b0 hsm.2)
 have HLO:=Lib.hid hok.lo
 have HHI:=Lib.hid hok.hi
 have HUU:=Lib.hid hu
 have HS:=Lib.hid hs
 clear h hg hu hsm hok hr hb hs
 go_enter Tryz.func107,Tryz.ntmps107
 go_wp2_with (first | (go_at_call 46;refine (HG.out _ (by (exact kp))).mono ?_;rintro e2 w2 ⟨rfl,hk2⟩;have hkw:Keeps w w2:=(by (exact kp))) | fail)
 have k0:=KWorld.cell (W0:=w2.alloc (.cells #[.int .u8 r.form,.int .u8 r.top,.int .u8 r.bot,.int .u8 r.lo.tag,.int .u32 r.lo.to,.int .u8 r.hi.tag,.int .u32 r.hi.to] 87)) (a:=⟨w2.heap.size,1,none⟩) (v:=.int .u8 r.top) (by simp)
 have k1:=KWorld.cell (W0:=w2.alloc (.cells #[.int .u8 r.form,.int .u8 r.top,.int .u8 r.bot,.int .u8 r.lo.tag,.int .u32 r.lo.to,.int .u8 r.hi.tag,.int .u32 r.hi.to] 87)) (a:=⟨w2.heap.size,2,none⟩) (v:=.int .u8 r.bot) (by simp)
 have k2:=KWorld.cell (W0:=w2.alloc (.cells #[.int .u8 r.form,.int .u8 r.top,.int .u8 r.bot,.int .u8 r.lo.tag,.int .u32 r.lo.to,.int .u8 r.hi.tag,.int .u32 r.hi.to] 87)) (a:=⟨w2.heap.size,3,none⟩) (v:=.int .u8 r.lo.tag) (by simp)
 have k3:=KWorld.cell (W0:=w2.alloc (.cells #[.int .u8 r.form,.int .u8 r.top,.int .u8 r.bot,.int .u8 r.lo.tag,.int .u32 r.lo.to,.int .u8 r.hi.tag,.int .u32 r.hi.to] 87)) (a:=⟨w2.heap.size,4,none⟩) (v:=.int .u32 r.lo.to) (by simp)
 have k4:=KWorld.cell (W0:=w2.alloc (.cells #[.int .u8 r.form,.int .u8 r.top,.int .u8 r.bot,.int .u8 r.lo.tag,.int .u32 r.lo.to,.int .u8 r.hi.tag,.int .u32 r.hi.to] 87)) (a:=⟨w2.heap.size,5,none⟩) (v:=.int .u8 r.hi.tag) (by simp)
 have k5:=KWorld.cell (W0:=w2.alloc (.cells #[.int .u8 r.form,.int .u8 r.top,.int .u8 r.bot,.int .u8 r.lo.tag,.int .u32 r.lo.to,.int .u8 r.hi.tag,.int .u32 r.hi.to] 87)) (a:=⟨w2.heap.size,6,none⟩) (v:=.int .u32 r.hi.to) (by simp)
 have HU:=Lib.hid (fun (e':Edge) (W:World) (hW:Keeps (w2.alloc (.cells #[.int .u8 r.form,.int .u8 r.top,.int .u8 r.bot,.int .u8 r.lo.tag,.int .u32 r.lo.to,.int .u8 r.hi.tag,.int .u32 r.hi.to] 87)) W)=>HUU.out e' W (hkw.trans (((Keeps.refl _).alloc _).trans hW)))
 have z1:=digS_size r.top
 have z2:=digS_size r.bot
 have z3:=unfS_few 1 M hn20 r.lo
 have z4:=unfS_few 1 M hn20 r.hi
 have ew:IntKind.i64.wrap (d - 1)=d - 1:=IntWalk.i64_in _ (by omega)
 refine wp_region_keeps (w2.alloc (.cells #[.int .u8 r.form,.int .u8 r.top,.int .u8 r.bot,.int .u8 r.lo.tag,.int .u32 r.lo.to,.int .u8 r.hi.tag,.int .u32 r.hi.to] 87)) (by kernel_rfl) (by kernel_rfl) (Keeps.refl _) ?_
 (repeat (go_big_quiet_step ((first | (go_at_call 138;with_reducible refine Calls.keepsK (HNT.out _)) | (go_at_call 107;with_reducible refine Calls.keepsK (HU.out _ _ (KWorld.keep _) (by first | exact HLO.out | exact HHI.out)))))))
 refine wpQuiet_nil ?_
 rintro wq ⟨⟨w4,hkq⟩,rfl⟩
 try dsimp only
 go_wp2_with fail
 go_ret
 exact ⟨rfl,hkw.trans (((Keeps.refl _).alloc _).trans hkq)⟩

theorem unfB_calls {F:Nat → Prop} {w:World} {sb:Nat} {M:St} (h:StoreRep F w sb M) (hn9:M.n ≤ 9):∀ (n:Nat),n ≤ 20 → ∀ (e:Edge) (W:World),Keeps w W → e.ok →
  Calls Tryz.prog 107 #[.pointer (some ⟨sb,0,none⟩),.agg #[.int .u8 e.tag,.int .u32 e.to],.int .i64 ((n:Int) - 1)] W fun r w'=>r=.returned (.string (unfS 1 M n e)) ∧ Keeps W w':=by
 intro n
 induction n with
 | zero=>intro _ e W _ _;exact unfB_deep sb e W
 | succ n ih=>
  intro hn e W hW he
  have e1:((n + 1:Nat):Int) - 1=(n:Int):=by omega
  rw [e1]
  by_cases ht:e.to < 2
  ·have hs:unfS 1 M (n + 1) e=digS e.to:=by
    show (if (1:Int)=5 then _ else if e.to < 2 then _ else _)=_
    rw [if_neg (by decide),if_pos ht]
   rw [hs]
   exact unfB_leaf sb e _ W (by omega) he ht
  ·exact unfB_node (h.keeps hW) hn9 e _ n (by omega) (by omega) (by omega) he ht (fun e' W2 h2 he'=>ih (by omega) e' W2 (hW.trans h2) he')

theorem unfZ_deep (sb:Nat) (e:Edge) (w:World):Calls Tryz.prog 108 #[.pointer (some ⟨sb,0,none⟩),.agg #[.int .u8 e.tag,.int .u32 e.to],.int .i64 (-1)] w fun r w'=>r=.returned (.string ⟨#[63]⟩) ∧ Keeps w w':=by
 go_enter Tryz.func108,Tryz.ntmps108
 go_wp2
 go_ret
 exact ⟨rfl,by (exact kp)⟩

theorem unfZ_leaf (sb:Nat) (e:Edge) (d:Int) (w:World) (hd:0 ≤ d) (he:e.ok) (ht:e.to < 2):Calls Tryz.prog 108 #[.pointer (some ⟨sb,0,none⟩),.agg #[.int .u8 e.tag,.int .u32 e.to],.int .i64 d] w fun r w'=>r=.returned (.string (digS e.to)) ∧ Keeps w w':=by
 have h0:0 ≤ e.to:=he.2.1
 have HN:=Lib.hid (fun W=>num_calls e.to W h0 (by omega))
 go_enter Tryz.func108,Tryz.ntmps108
 go_wp2_with (first | (go_at_call 138;refine (HN.out _).mono ?_;rintro e2 w1 ⟨rfl,hk⟩) | fail)
 go_ret
 exact ⟨rfl,by (exact kp)⟩

set_option maxRecDepth 100000 in
theorem unfZ_node {F:Nat → Prop} {w:World} {sb:Nat} {M:St} (h:StoreRep F w sb M) (hn9:M.n ≤ 9) (e:Edge) (d:Int) (n:Nat) (hd:0 ≤ d) (hd2:d ≤ 100) (hn20:n ≤ 20) (he:e.ok) (ht:¬ e.to < 2)
  (hu:∀ (e':Edge) (W:World),Keeps w W → e'.ok → Calls Tryz.prog 108 #[.pointer (some ⟨sb,0,none⟩),.agg #[.int .u8 e'.tag,.int .u32 e'.to],.int .i64 (d - 1)] W fun r w'=>r=.returned (.string (unfS 2 M n e')) ∧ Keeps W w') :
  Calls Tryz.prog 108 #[.pointer (some ⟨sb,0,none⟩),.agg #[.int .u8 e.tag,.int .u32 e.to],.int .i64 d] w fun r w'=>r=.returned (.string (unfS 2 M (n + 1) e)) ∧ Keeps w w':=by
 have hs:unfS 2 M (n + 1) e=(let r:=grec (look M.cs e.to);⟨#[40]⟩ ++ digS r.top ++ ⟨#[32]⟩ ++ unfS 2 M n r.lo ++ ⟨#[32]⟩ ++ unfS 2 M n r.hi ++ ⟨#[41]⟩):=by
  show (if (2:Int)=5 then _ else if e.to < 2 then _ else _)=_
  rw [if_neg (by decide),if_neg ht]
  rw [if_neg (by decide)]
 rw [hs]
 have hg:=fun (W:World) (hW:Keeps w W)=>store_get (h.keeps hW) e.to he.2.2
 have hsm:=grec_small h.wf hn9 e.to
 have hok:=h.grec e.to
 obtain ⟨r,hr⟩:∃ r,r=grec (look M.cs e.to):=⟨_,rfl⟩
 obtain ⟨b,hb⟩:∃ b,b=gsome (look M.cs e.to):=⟨_,rfl⟩
 simp only [← hr,← hb] at hg hsm hok ⊢
 have t0:0 ≤ r.top:=hok.top.1
 have t1:r.top ≤ 255:=hok.top.2
 have b0:0 ≤ r.bot:=hok.bot.1
 have b1:r.bot ≤ 255:=hok.bot.2
 have HG:=Lib.hid hg
 have HNT:=Lib.hid (fun W=>num_calls r.top W t0 hsm.1)
 have HNB:=Lib.hid (fun W=>num_calls r.bot W b0 hsm.2)
 have HLO:=Lib.hid hok.lo
 have HHI:=Lib.hid hok.hi
 have HUU:=Lib.hid hu
 have HS:=Lib.hid hs
 clear h hg hu hsm hok hr hb hs
 go_enter Tryz.func108,Tryz.ntmps108
 go_wp2_with (first | (go_at_call 46;refine (HG.out _ (by (exact kp))).mono ?_;rintro e2 w2 ⟨rfl,hk2⟩;have hkw:Keeps w w2:=(by (exact kp))) | fail)
 have k0:=KWorld.cell (W0:=w2.alloc (.cells #[.int .u8 r.form,.int .u8 r.top,.int .u8 r.bot,.int .u8 r.lo.tag,.int .u32 r.lo.to,.int .u8 r.hi.tag,.int .u32 r.hi.to] 87)) (a:=⟨w2.heap.size,1,none⟩) (v:=.int .u8 r.top) (by simp)
 have k1:=KWorld.cell (W0:=w2.alloc (.cells #[.int .u8 r.form,.int .u8 r.top,.int .u8 r.bot,.int .u8 r.lo.tag,.int .u32 r.lo.to,.int .u8 r.hi.tag,.int .u32 r.hi.to] 87)) (a:=⟨w2.heap.size,2,none⟩) (v:=.int .u8 r.bot) (by simp)
 have k2:=KWorld.cell (W0:=w2.alloc (.cells #[.int .u8 r.form,.int .u8 r.top,.int .u8 r.bot,.int .u8 r.lo.tag,.int .u32 r.lo.to,.int .u8 r.hi.tag,.int .u32 r.hi.to] 87)) (a:=⟨w2.heap.size,3,none⟩) (v:=.int .u8 r.lo.tag) (by simp)
 have k3:=KWorld.cell (W0:=w2.alloc (.cells #[.int .u8 r.form,.int .u8 r.top,.int .u8 r.bot,.int .u8 r.lo.tag,.int .u32 r.lo.to,.int .u8 r.hi.tag,.int .u32 r.hi.to] 87)) (a:=⟨w2.heap.size,4,none⟩) (v:=.int .u32 r.lo.to) (by simp)
 have k4:=KWorld.cell (W0:=w2.alloc (.cells #[.int .u8 r.form,.int .u8 r.top,.int .u8 r.bot,.int .u8 r.lo.tag,.int .u32 r.lo.to,.int .u8 r.hi.tag,.int .u32 r.hi.to] 87)) (a:=⟨w2.heap.size,5,none⟩) (v:=.int .u8 r.hi.tag) (by simp)
 have k5:=KWorld.cell (W0:=w2.alloc (.cells #[.int .u8 r.form,.int .u8 r.top,.int .u8 r.bot,.int .u8 r.lo.tag,.int .u32 r.lo.to,.int .u8 r.hi.tag,.int .u32 r.hi.to] 87)) (a:=⟨w2.heap.size,6,none⟩) (v:=.int .u32 r.hi.to) (by simp)
 have HU:=Lib.hid (fun (e':Edge) (W:World) (hW:Keeps (w2.alloc (.cells #[.int .u8 r.form,.int .u8 r.top,.int .u8 r.bot,.int .u8 r.lo.tag,.int .u32 r.lo.to,.int .u8 r.hi.tag,.int .u32 r.hi.to] 87)) W)=>HUU.out e' W (hkw.trans (((Keeps.refl _).alloc _).trans hW)))
 have z1:=digS_size r.top
 have z2:=digS_size r.bot
 have z3:=unfS_few 2 M hn20 r.lo
 have z4:=unfS_few 2 M hn20 r.hi
 have ew:IntKind.i64.wrap (d - 1)=d - 1:=IntWalk.i64_in _ (by omega)
 refine wp_region_keeps (w2.alloc (.cells #[.int .u8 r.form,.int .u8 r.top,.int .u8 r.bot,.int .u8 r.lo.tag,.int .u32 r.lo.to,.int .u8 r.hi.tag,.int .u32 r.hi.to] 87)) (by kernel_rfl) (by kernel_rfl) (Keeps.refl _) ?_
 (repeat (go_big_quiet_step ((first | (go_at_call 138;with_reducible refine Calls.keepsK (HNT.out _)) | (go_at_call 108;with_reducible refine Calls.keepsK (HU.out _ _ (KWorld.keep _) (by first | exact HLO.out | exact HHI.out)))))))
 refine wpQuiet_nil ?_
 rintro wq ⟨⟨w4,hkq⟩,rfl⟩
 try dsimp only
 go_wp2_with fail
 go_ret
 exact ⟨rfl,hkw.trans (((Keeps.refl _).alloc _).trans hkq)⟩

theorem unfZ_calls {F:Nat → Prop} {w:World} {sb:Nat} {M:St} (h:StoreRep F w sb M) (hn9:M.n ≤ 9):∀ (n:Nat),n ≤ 20 → ∀ (e:Edge) (W:World),Keeps w W → e.ok →
  Calls Tryz.prog 108 #[.pointer (some ⟨sb,0,none⟩),.agg #[.int .u8 e.tag,.int .u32 e.to],.int .i64 ((n:Int) - 1)] W fun r w'=>r=.returned (.string (unfS 2 M n e)) ∧ Keeps W w':=by
 intro n
 induction n with
 | zero=>intro _ e W _ _;exact unfZ_deep sb e W
 | succ n ih=>
  intro hn e W hW he
  have e1:((n + 1:Nat):Int) - 1=(n:Int):=by omega
  rw [e1]
  by_cases ht:e.to < 2
  ·have hs:unfS 2 M (n + 1) e=digS e.to:=by
    show (if (2:Int)=5 then _ else if e.to < 2 then _ else _)=_
    rw [if_neg (by decide),if_pos ht]
   rw [hs]
   exact unfZ_leaf sb e _ W (by omega) he ht
  ·exact unfZ_node (h.keeps hW) hn9 e _ n (by omega) (by omega) (by omega) he ht (fun e' W2 h2 he'=>ih (by omega) e' W2 (hW.trans h2) he')

theorem unfC_deep (sb:Nat) (e:Edge) (w:World):Calls Tryz.prog 109 #[.pointer (some ⟨sb,0,none⟩),.agg #[.int .u8 e.tag,.int .u32 e.to],.int .i64 (-1)] w fun r w'=>r=.returned (.string ⟨#[63]⟩) ∧ Keeps w w':=by
 go_enter Tryz.func109,Tryz.ntmps109
 go_wp2
 go_ret
 exact ⟨rfl,by (exact kp)⟩

theorem unfC_leaf (sb:Nat) (e:Edge) (d:Int) (w:World) (hd:0 ≤ d) (he:e.ok) (ht:e.to < 2):Calls Tryz.prog 109 #[.pointer (some ⟨sb,0,none⟩),.agg #[.int .u8 e.tag,.int .u32 e.to],.int .i64 d] w fun r w'=>r=.returned (.string (digS e.to)) ∧ Keeps w w':=by
 have h0:0 ≤ e.to:=he.2.1
 have HN:=Lib.hid (fun W=>num_calls e.to W h0 (by omega))
 go_enter Tryz.func109,Tryz.ntmps109
 go_wp2_with (first | (go_at_call 138;refine (HN.out _).mono ?_;rintro e2 w1 ⟨rfl,hk⟩) | fail)
 go_ret
 exact ⟨rfl,by (exact kp)⟩

set_option maxRecDepth 100000 in
theorem unfC_node {F:Nat → Prop} {w:World} {sb:Nat} {M:St} (h:StoreRep F w sb M) (hn9:M.n ≤ 9) (e:Edge) (d:Int) (n:Nat) (hd:0 ≤ d) (hd2:d ≤ 100) (hn20:n ≤ 20) (he:e.ok) (ht:¬ e.to < 2)
  (hu:∀ (e':Edge) (W:World),Keeps w W → e'.ok → Calls Tryz.prog 109 #[.pointer (some ⟨sb,0,none⟩),.agg #[.int .u8 e'.tag,.int .u32 e'.to],.int .i64 (d - 1)] W fun r w'=>r=.returned (.string (unfS 3 M n e')) ∧ Keeps W w') :
  Calls Tryz.prog 109 #[.pointer (some ⟨sb,0,none⟩),.agg #[.int .u8 e.tag,.int .u32 e.to],.int .i64 d] w fun r w'=>r=.returned (.string (unfS 3 M (n + 1) e)) ∧ Keeps w w':=by
 have hs:unfS 3 M (n + 1) e=(let r:=grec (look M.cs e.to);⟨#[40]⟩ ++ digS r.top ++ ⟨#[58]⟩ ++ digS r.bot ++ ⟨#[32]⟩ ++ unfS 3 M n r.lo ++ ⟨#[32]⟩ ++ unfS 3 M n r.hi ++ ⟨#[41]⟩):=by
  show (if (3:Int)=5 then _ else if e.to < 2 then _ else _)=_
  rw [if_neg (by decide),if_neg ht]
  rw [if_pos (by decide)]
 rw [hs]
 have hg:=fun (W:World) (hW:Keeps w W)=>store_get (h.keeps hW) e.to he.2.2
 have hsm:=grec_small h.wf hn9 e.to
 have hok:=h.grec e.to
 obtain ⟨r,hr⟩:∃ r,r=grec (look M.cs e.to):=⟨_,rfl⟩
 obtain ⟨b,hb⟩:∃ b,b=gsome (look M.cs e.to):=⟨_,rfl⟩
 simp only [← hr,← hb] at hg hsm hok ⊢
 have t0:0 ≤ r.top:=hok.top.1
 have t1:r.top ≤ 255:=hok.top.2
 have b0:0 ≤ r.bot:=hok.bot.1
 have b1:r.bot ≤ 255:=hok.bot.2
 have HG:=Lib.hid hg
 have HNT:=Lib.hid (fun W=>num_calls r.top W t0 hsm.1)
 have HNB:=Lib.hid (fun W=>num_calls r.bot W b0 hsm.2)
 have HLO:=Lib.hid hok.lo
 have HHI:=Lib.hid hok.hi
 have HUU:=Lib.hid hu
 have HS:=Lib.hid hs
 clear h hg hu hsm hok hr hb hs
 go_enter Tryz.func109,Tryz.ntmps109
 go_wp2_with (first | (go_at_call 46;refine (HG.out _ (by (exact kp))).mono ?_;rintro e2 w2 ⟨rfl,hk2⟩;have hkw:Keeps w w2:=(by (exact kp))) | fail)
 have k0:=KWorld.cell (W0:=w2.alloc (.cells #[.int .u8 r.form,.int .u8 r.top,.int .u8 r.bot,.int .u8 r.lo.tag,.int .u32 r.lo.to,.int .u8 r.hi.tag,.int .u32 r.hi.to] 87)) (a:=⟨w2.heap.size,1,none⟩) (v:=.int .u8 r.top) (by simp)
 have k1:=KWorld.cell (W0:=w2.alloc (.cells #[.int .u8 r.form,.int .u8 r.top,.int .u8 r.bot,.int .u8 r.lo.tag,.int .u32 r.lo.to,.int .u8 r.hi.tag,.int .u32 r.hi.to] 87)) (a:=⟨w2.heap.size,2,none⟩) (v:=.int .u8 r.bot) (by simp)
 have k2:=KWorld.cell (W0:=w2.alloc (.cells #[.int .u8 r.form,.int .u8 r.top,.int .u8 r.bot,.int .u8 r.lo.tag,.int .u32 r.lo.to,.int .u8 r.hi.tag,.int .u32 r.hi.to] 87)) (a:=⟨w2.heap.size,3,none⟩) (v:=.int .u8 r.lo.tag) (by simp)
 have k3:=KWorld.cell (W0:=w2.alloc (.cells #[.int .u8 r.form,.int .u8 r.top,.int .u8 r.bot,.int .u8 r.lo.tag,.int .u32 r.lo.to,.int .u8 r.hi.tag,.int .u32 r.hi.to] 87)) (a:=⟨w2.heap.size,4,none⟩) (v:=.int .u32 r.lo.to) (by simp)
 have k4:=KWorld.cell (W0:=w2.alloc (.cells #[.int .u8 r.form,.int .u8 r.top,.int .u8 r.bot,.int .u8 r.lo.tag,.int .u32 r.lo.to,.int .u8 r.hi.tag,.int .u32 r.hi.to] 87)) (a:=⟨w2.heap.size,5,none⟩) (v:=.int .u8 r.hi.tag) (by simp)
 have k5:=KWorld.cell (W0:=w2.alloc (.cells #[.int .u8 r.form,.int .u8 r.top,.int .u8 r.bot,.int .u8 r.lo.tag,.int .u32 r.lo.to,.int .u8 r.hi.tag,.int .u32 r.hi.to] 87)) (a:=⟨w2.heap.size,6,none⟩) (v:=.int .u32 r.hi.to) (by simp)
 have HU:=Lib.hid (fun (e':Edge) (W:World) (hW:Keeps (w2.alloc (.cells #[.int .u8 r.form,.int .u8 r.top,.int .u8 r.bot,.int .u8 r.lo.tag,.int .u32 r.lo.to,.int .u8 r.hi.tag,.int .u32 r.hi.to] 87)) W)=>HUU.out e' W (hkw.trans (((Keeps.refl _).alloc _).trans hW)))
 have z1:=digS_size r.top
 have z2:=digS_size r.bot
 have z3:=unfS_few 3 M hn20 r.lo
 have z4:=unfS_few 3 M hn20 r.hi
 have ew:IntKind.i64.wrap (d - 1)=d - 1:=IntWalk.i64_in _ (by omega)
 refine wp_region_keeps (w2.alloc (.cells #[.int .u8 r.form,.int .u8 r.top,.int .u8 r.bot,.int .u8 r.lo.tag,.int .u32 r.lo.to,.int .u8 r.hi.tag,.int .u32 r.hi.to] 87)) (by kernel_rfl) (by kernel_rfl) (Keeps.refl _) ?_
 (repeat (go_big_quiet_step ((first | (go_at_call 138;with_reducible refine Calls.keepsK (HNT.out _)) | (go_at_call 138;with_reducible refine Calls.keepsK (HNB.out _)) | (go_at_call 109;with_reducible refine Calls.keepsK (HU.out _ _ (KWorld.keep _) (by first | exact HLO.out | exact HHI.out)))))))
 refine wpQuiet_nil ?_
 rintro wq ⟨⟨w4,hkq⟩,rfl⟩
 try dsimp only
 go_wp2_with fail
 go_ret
 exact ⟨rfl,hkw.trans (((Keeps.refl _).alloc _).trans hkq)⟩

theorem unfC_calls {F:Nat → Prop} {w:World} {sb:Nat} {M:St} (h:StoreRep F w sb M) (hn9:M.n ≤ 9):∀ (n:Nat),n ≤ 20 → ∀ (e:Edge) (W:World),Keeps w W → e.ok →
  Calls Tryz.prog 109 #[.pointer (some ⟨sb,0,none⟩),.agg #[.int .u8 e.tag,.int .u32 e.to],.int .i64 ((n:Int) - 1)] W fun r w'=>r=.returned (.string (unfS 3 M n e)) ∧ Keeps W w':=by
 intro n
 induction n with
 | zero=>intro _ e W _ _;exact unfC_deep sb e W
 | succ n ih=>
  intro hn e W hW he
  have e1:((n + 1:Nat):Int) - 1=(n:Int):=by omega
  rw [e1]
  by_cases ht:e.to < 2
  ·have hs:unfS 3 M (n + 1) e=digS e.to:=by
    show (if (3:Int)=5 then _ else if e.to < 2 then _ else _)=_
    rw [if_neg (by decide),if_pos ht]
   rw [hs]
   exact unfC_leaf sb e _ W (by omega) he ht
  ·exact unfC_node (h.keeps hW) hn9 e _ n (by omega) (by omega) (by omega) he ht (fun e' W2 h2 he'=>ih (by omega) e' W2 (hW.trans h2) he')

theorem unfQ_deep (sb:Nat) (e:Edge) (w:World):Calls Tryz.prog 110 #[.pointer (some ⟨sb,0,none⟩),.agg #[.int .u8 e.tag,.int .u32 e.to],.int .i64 (-1)] w fun r w'=>r=.returned (.string ⟨#[63]⟩) ∧ Keeps w w':=by
 go_enter Tryz.func110,Tryz.ntmps110
 go_wp2
 go_ret
 exact ⟨rfl,by (exact kp)⟩

theorem unfQ_leaf (sb:Nat) (e:Edge) (d:Int) (w:World) (hd:0 ≤ d) (he:e.ok) (ht:e.to < 2):Calls Tryz.prog 110 #[.pointer (some ⟨sb,0,none⟩),.agg #[.int .u8 e.tag,.int .u32 e.to],.int .i64 d] w fun r w'=>r=.returned (.string (digS e.to)) ∧ Keeps w w':=by
 have h0:0 ≤ e.to:=he.2.1
 have HN:=Lib.hid (fun W=>num_calls e.to W h0 (by omega))
 go_enter Tryz.func110,Tryz.ntmps110
 go_wp2_with (first | (go_at_call 138;refine (HN.out _).mono ?_;rintro e2 w1 ⟨rfl,hk⟩) | fail)
 go_ret
 exact ⟨rfl,by (exact kp)⟩

set_option maxRecDepth 100000 in
theorem unfQ_node {F:Nat → Prop} {w:World} {sb:Nat} {M:St} (h:StoreRep F w sb M) (hn9:M.n ≤ 9) (e:Edge) (d:Int) (n:Nat) (hd:0 ≤ d) (hd2:d ≤ 100) (hn20:n ≤ 20) (he:e.ok) (ht:¬ e.to < 2)
  (hu:∀ (e':Edge) (W:World),Keeps w W → e'.ok → Calls Tryz.prog 110 #[.pointer (some ⟨sb,0,none⟩),.agg #[.int .u8 e'.tag,.int .u32 e'.to],.int .i64 (d - 1)] W fun r w'=>r=.returned (.string (unfS 4 M n e')) ∧ Keeps W w') :
  Calls Tryz.prog 110 #[.pointer (some ⟨sb,0,none⟩),.agg #[.int .u8 e.tag,.int .u32 e.to],.int .i64 d] w fun r w'=>r=.returned (.string (unfS 4 M (n + 1) e)) ∧ Keeps w w':=by
 have hs:unfS 4 M (n + 1) e=(let r:=grec (look M.cs e.to);⟨#[40]⟩ ++ digS r.top ++ ⟨#[58]⟩ ++ digS r.bot ++ ⟨#[32]⟩ ++ unfS 4 M n r.lo ++ ⟨#[32]⟩ ++ unfS 4 M n r.hi ++ ⟨#[41]⟩):=by
  show (if (4:Int)=5 then _ else if e.to < 2 then _ else _)=_
  rw [if_neg (by decide),if_neg ht]
  rw [if_pos (by decide)]
 rw [hs]
 have hg:=fun (W:World) (hW:Keeps w W)=>store_get (h.keeps hW) e.to he.2.2
 have hsm:=grec_small h.wf hn9 e.to
 have hok:=h.grec e.to
 obtain ⟨r,hr⟩:∃ r,r=grec (look M.cs e.to):=⟨_,rfl⟩
 obtain ⟨b,hb⟩:∃ b,b=gsome (look M.cs e.to):=⟨_,rfl⟩
 simp only [← hr,← hb] at hg hsm hok ⊢
 have t0:0 ≤ r.top:=hok.top.1
 have t1:r.top ≤ 255:=hok.top.2
 have b0:0 ≤ r.bot:=hok.bot.1
 have b1:r.bot ≤ 255:=hok.bot.2
 have HG:=Lib.hid hg
 have HNT:=Lib.hid (fun W=>num_calls r.top W t0 hsm.1)
 have HNB:=Lib.hid (fun W=>num_calls r.bot W b0 hsm.2)
 have HLO:=Lib.hid hok.lo
 have HHI:=Lib.hid hok.hi
 have HUU:=Lib.hid hu
 have HS:=Lib.hid hs
 clear h hg hu hsm hok hr hb hs
 go_enter Tryz.func110,Tryz.ntmps110
 go_wp2_with (first | (go_at_call 46;refine (HG.out _ (by (exact kp))).mono ?_;rintro e2 w2 ⟨rfl,hk2⟩;have hkw:Keeps w w2:=(by (exact kp))) | fail)
 have k0:=KWorld.cell (W0:=w2.alloc (.cells #[.int .u8 r.form,.int .u8 r.top,.int .u8 r.bot,.int .u8 r.lo.tag,.int .u32 r.lo.to,.int .u8 r.hi.tag,.int .u32 r.hi.to] 87)) (a:=⟨w2.heap.size,1,none⟩) (v:=.int .u8 r.top) (by simp)
 have k1:=KWorld.cell (W0:=w2.alloc (.cells #[.int .u8 r.form,.int .u8 r.top,.int .u8 r.bot,.int .u8 r.lo.tag,.int .u32 r.lo.to,.int .u8 r.hi.tag,.int .u32 r.hi.to] 87)) (a:=⟨w2.heap.size,2,none⟩) (v:=.int .u8 r.bot) (by simp)
 have k2:=KWorld.cell (W0:=w2.alloc (.cells #[.int .u8 r.form,.int .u8 r.top,.int .u8 r.bot,.int .u8 r.lo.tag,.int .u32 r.lo.to,.int .u8 r.hi.tag,.int .u32 r.hi.to] 87)) (a:=⟨w2.heap.size,3,none⟩) (v:=.int .u8 r.lo.tag) (by simp)
 have k3:=KWorld.cell (W0:=w2.alloc (.cells #[.int .u8 r.form,.int .u8 r.top,.int .u8 r.bot,.int .u8 r.lo.tag,.int .u32 r.lo.to,.int .u8 r.hi.tag,.int .u32 r.hi.to] 87)) (a:=⟨w2.heap.size,4,none⟩) (v:=.int .u32 r.lo.to) (by simp)
 have k4:=KWorld.cell (W0:=w2.alloc (.cells #[.int .u8 r.form,.int .u8 r.top,.int .u8 r.bot,.int .u8 r.lo.tag,.int .u32 r.lo.to,.int .u8 r.hi.tag,.int .u32 r.hi.to] 87)) (a:=⟨w2.heap.size,5,none⟩) (v:=.int .u8 r.hi.tag) (by simp)
 have k5:=KWorld.cell (W0:=w2.alloc (.cells #[.int .u8 r.form,.int .u8 r.top,.int .u8 r.bot,.int .u8 r.lo.tag,.int .u32 r.lo.to,.int .u8 r.hi.tag,.int .u32 r.hi.to] 87)) (a:=⟨w2.heap.size,6,none⟩) (v:=.int .u32 r.hi.to) (by simp)
 have HU:=Lib.hid (fun (e':Edge) (W:World) (hW:Keeps (w2.alloc (.cells #[.int .u8 r.form,.int .u8 r.top,.int .u8 r.bot,.int .u8 r.lo.tag,.int .u32 r.lo.to,.int .u8 r.hi.tag,.int .u32 r.hi.to] 87)) W)=>HUU.out e' W (hkw.trans (((Keeps.refl _).alloc _).trans hW)))
 have z1:=digS_size r.top
 have z2:=digS_size r.bot
 have z3:=unfS_few 4 M hn20 r.lo
 have z4:=unfS_few 4 M hn20 r.hi
 have ew:IntKind.i64.wrap (d - 1)=d - 1:=IntWalk.i64_in _ (by omega)
 refine wp_region_keeps (w2.alloc (.cells #[.int .u8 r.form,.int .u8 r.top,.int .u8 r.bot,.int .u8 r.lo.tag,.int .u32 r.lo.to,.int .u8 r.hi.tag,.int .u32 r.hi.to] 87)) (by kernel_rfl) (by kernel_rfl) (Keeps.refl _) ?_
 (repeat (go_big_quiet_step ((first | (go_at_call 138;with_reducible refine Calls.keepsK (HNT.out _)) | (go_at_call 138;with_reducible refine Calls.keepsK (HNB.out _)) | (go_at_call 110;with_reducible refine Calls.keepsK (HU.out _ _ (KWorld.keep _) (by first | exact HLO.out | exact HHI.out)))))))
 refine wpQuiet_nil ?_
 rintro wq ⟨⟨w4,hkq⟩,rfl⟩
 try dsimp only
 go_wp2_with fail
 go_ret
 exact ⟨rfl,hkw.trans (((Keeps.refl _).alloc _).trans hkq)⟩

theorem unfQ_calls {F:Nat → Prop} {w:World} {sb:Nat} {M:St} (h:StoreRep F w sb M) (hn9:M.n ≤ 9):∀ (n:Nat),n ≤ 20 → ∀ (e:Edge) (W:World),Keeps w W → e.ok →
  Calls Tryz.prog 110 #[.pointer (some ⟨sb,0,none⟩),.agg #[.int .u8 e.tag,.int .u32 e.to],.int .i64 ((n:Int) - 1)] W fun r w'=>r=.returned (.string (unfS 4 M n e)) ∧ Keeps W w':=by
 intro n
 induction n with
 | zero=>intro _ e W _ _;exact unfQ_deep sb e W
 | succ n ih=>
  intro hn e W hW he
  have e1:((n + 1:Nat):Int) - 1=(n:Int):=by omega
  rw [e1]
  by_cases ht:e.to < 2
  ·have hs:unfS 4 M (n + 1) e=digS e.to:=by
    show (if (4:Int)=5 then _ else if e.to < 2 then _ else _)=_
    rw [if_neg (by decide),if_pos ht]
   rw [hs]
   exact unfQ_leaf sb e _ W (by omega) he ht
  ·exact unfQ_node (h.keeps hW) hn9 e _ n (by omega) (by omega) (by omega) he ht (fun e' W2 h2 he'=>ih (by omega) e' W2 (hW.trans h2) he')

theorem unfT_deep (sb:Nat) (e:Edge) (w:World):Calls Tryz.prog 111 #[.pointer (some ⟨sb,0,none⟩),.agg #[.int .u8 e.tag,.int .u32 e.to],.int .i64 (-1)] w fun r w'=>r=.returned (.string ⟨#[63]⟩) ∧ Keeps w w':=by
 go_enter Tryz.func111,Tryz.ntmps111
 go_wp2
 go_ret
 exact ⟨rfl,by (exact kp)⟩

theorem unfT_zero (sb:Nat) (t d:Int) (w:World) (hd:0 ≤ d):Calls Tryz.prog 111 #[.pointer (some ⟨sb,0,none⟩),.agg #[.int .u8 t,.int .u32 0],.int .i64 d] w fun r w'=>r=.returned (.string ⟨#[48]⟩) ∧ Keeps w w':=by
 go_enter Tryz.func111,Tryz.ntmps111
 go_wp2
 go_ret
 exact ⟨rfl,by (exact kp)⟩

theorem unfT_one (sb:Nat) (t d:Int) (w:World) (hd:0 ≤ d) (t0:0 ≤ t) (t1:t < 10):Calls Tryz.prog 111 #[.pointer (some ⟨sb,0,none⟩),.agg #[.int .u8 t,.int .u32 1],.int .i64 d] w fun r w'=>r=.returned (.string (digS t ++ ⟨#[64]⟩ ++ ⟨#[49]⟩)) ∧ Keeps w w':=by
 have HN:=Lib.hid (fun W=>tag_calls t W t0 t1)
 have z1:=digS_size t
 go_enter Tryz.func111,Tryz.ntmps111
 go_wp2_with (first | (go_at_call 139;refine (HN.out _).mono ?_;rintro e2 w1 ⟨rfl,hk⟩) | fail)
 go_ret
 exact ⟨rfl,by (exact kp)⟩

set_option maxRecDepth 100000 in
theorem unfT_node {F:Nat → Prop} {w:World} {sb:Nat} {M:St} (h:StoreRep F w sb M) (hn9:M.n ≤ 9) (e:Edge) (d:Int) (n:Nat) (hd:0 ≤ d) (hd2:d ≤ 100) (hn20:n ≤ 20) (he:e.ok) (ht:¬ e.to < 2) (htag:e.tag < 10)
  (hlt:(grec (look M.cs e.to)).lo.tag < 10 ∧ (grec (look M.cs e.to)).hi.tag < 10)
  (hu:∀ (e':Edge) (W:World),Keeps w W → e'.ok → e'.tag < 10 → Calls Tryz.prog 111 #[.pointer (some ⟨sb,0,none⟩),.agg #[.int .u8 e'.tag,.int .u32 e'.to],.int .i64 (d - 1)] W fun r w'=>r=.returned (.string (unfS 5 M n e')) ∧ Keeps W w') :
  Calls Tryz.prog 111 #[.pointer (some ⟨sb,0,none⟩),.agg #[.int .u8 e.tag,.int .u32 e.to],.int .i64 d] w fun r w'=>r=.returned (.string (unfS 5 M (n + 1) e)) ∧ Keeps w w':=by
 have hs:unfS 5 M (n + 1) e=(let r:=grec (look M.cs e.to);digS e.tag ++ ⟨#[64]⟩ ++ ⟨#[40]⟩ ++ digS r.top ++ ⟨#[32]⟩ ++ unfS 5 M n r.lo ++ ⟨#[32]⟩ ++ unfS 5 M n r.hi ++ ⟨#[41]⟩):=by
  show (if (5:Int)=5 then (if e.to=0 then _ else if e.to=1 then _ else _) else _)=_
  rw [if_pos (by decide),if_neg (by omega),if_neg (by omega)]
 rw [hs]
 have hg:=fun (W:World) (hW:Keeps w W)=>store_get (h.keeps hW) e.to he.2.2
 have hsm:=grec_small h.wf hn9 e.to
 have hok:=h.grec e.to
 obtain ⟨r,hr⟩:∃ r,r=grec (look M.cs e.to):=⟨_,rfl⟩
 obtain ⟨b,hb⟩:∃ b,b=gsome (look M.cs e.to):=⟨_,rfl⟩
 simp only [← hr,← hb] at hg hsm hok hlt ⊢
 have g0:¬ e.to=0:=by omega
 have g1:¬ e.to=1:=by omega
 have HTG:=Lib.hid (fun W=>tag_calls e.tag W he.1.1 htag)
 have x0:0 ≤ e.tag:=he.1.1
 have x1:e.tag ≤ 255:=he.1.2
 have t0:0 ≤ r.top:=hok.top.1
 have t1:r.top ≤ 255:=hok.top.2
 have b0:0 ≤ r.bot:=hok.bot.1
 have b1:r.bot ≤ 255:=hok.bot.2
 have HG:=Lib.hid hg
 have HNT:=Lib.hid (fun W=>num_calls r.top W t0 hsm.1)
 have HNB:=Lib.hid (fun W=>num_calls r.bot W b0 hsm.2)
 have HLO:=Lib.hid (And.intro hok.lo hlt.1)
 have HHI:=Lib.hid (And.intro hok.hi hlt.2)
 have HUU:=Lib.hid hu
 have HS:=Lib.hid hs
 clear h hg hu hsm hok hr hb hs
 go_enter Tryz.func111,Tryz.ntmps111
 go_wp2_with (first | (go_at_call 46;refine (HG.out _ (by (exact kp))).mono ?_;rintro e2 w2 ⟨rfl,hk2⟩;have hkw:Keeps w w2:=(by (exact kp));have y0:=hk2.cell (a:=⟨w.heap.size,0,none⟩) (v:=.int .u8 e.tag) (by simp [go_sem])) | fail)
 have kE:=KWorld.cell (W0:=w2.alloc (.cells #[.int .u8 r.form,.int .u8 r.top,.int .u8 r.bot,.int .u8 r.lo.tag,.int .u32 r.lo.to,.int .u8 r.hi.tag,.int .u32 r.hi.to] 87)) (a:=⟨w.heap.size,0,none⟩) (v:=.int .u8 e.tag) (((Keeps.refl _).alloc _).cell y0)
 have k0:=KWorld.cell (W0:=w2.alloc (.cells #[.int .u8 r.form,.int .u8 r.top,.int .u8 r.bot,.int .u8 r.lo.tag,.int .u32 r.lo.to,.int .u8 r.hi.tag,.int .u32 r.hi.to] 87)) (a:=⟨w2.heap.size,1,none⟩) (v:=.int .u8 r.top) (by simp)
 have k1:=KWorld.cell (W0:=w2.alloc (.cells #[.int .u8 r.form,.int .u8 r.top,.int .u8 r.bot,.int .u8 r.lo.tag,.int .u32 r.lo.to,.int .u8 r.hi.tag,.int .u32 r.hi.to] 87)) (a:=⟨w2.heap.size,2,none⟩) (v:=.int .u8 r.bot) (by simp)
 have k2:=KWorld.cell (W0:=w2.alloc (.cells #[.int .u8 r.form,.int .u8 r.top,.int .u8 r.bot,.int .u8 r.lo.tag,.int .u32 r.lo.to,.int .u8 r.hi.tag,.int .u32 r.hi.to] 87)) (a:=⟨w2.heap.size,3,none⟩) (v:=.int .u8 r.lo.tag) (by simp)
 have k3:=KWorld.cell (W0:=w2.alloc (.cells #[.int .u8 r.form,.int .u8 r.top,.int .u8 r.bot,.int .u8 r.lo.tag,.int .u32 r.lo.to,.int .u8 r.hi.tag,.int .u32 r.hi.to] 87)) (a:=⟨w2.heap.size,4,none⟩) (v:=.int .u32 r.lo.to) (by simp)
 have k4:=KWorld.cell (W0:=w2.alloc (.cells #[.int .u8 r.form,.int .u8 r.top,.int .u8 r.bot,.int .u8 r.lo.tag,.int .u32 r.lo.to,.int .u8 r.hi.tag,.int .u32 r.hi.to] 87)) (a:=⟨w2.heap.size,5,none⟩) (v:=.int .u8 r.hi.tag) (by simp)
 have k5:=KWorld.cell (W0:=w2.alloc (.cells #[.int .u8 r.form,.int .u8 r.top,.int .u8 r.bot,.int .u8 r.lo.tag,.int .u32 r.lo.to,.int .u8 r.hi.tag,.int .u32 r.hi.to] 87)) (a:=⟨w2.heap.size,6,none⟩) (v:=.int .u32 r.hi.to) (by simp)
 have HU:=Lib.hid (fun (e':Edge) (W:World) (hW:Keeps (w2.alloc (.cells #[.int .u8 r.form,.int .u8 r.top,.int .u8 r.bot,.int .u8 r.lo.tag,.int .u32 r.lo.to,.int .u8 r.hi.tag,.int .u32 r.hi.to] 87)) W)=>fun (hp:e'.ok ∧ e'.tag < 10)=>HUU.out e' W (hkw.trans (((Keeps.refl _).alloc _).trans hW)) hp.1 hp.2)
 have z0:=digS_size e.tag
 have z1:=digS_size r.top
 have z2:=digS_size r.bot
 have z3:=unfS_few 5 M hn20 r.lo
 have z4:=unfS_few 5 M hn20 r.hi
 have ew:IntKind.i64.wrap (d - 1)=d - 1:=IntWalk.i64_in _ (by omega)
 refine wp_region_keeps (w2.alloc (.cells #[.int .u8 r.form,.int .u8 r.top,.int .u8 r.bot,.int .u8 r.lo.tag,.int .u32 r.lo.to,.int .u8 r.hi.tag,.int .u32 r.hi.to] 87)) (by kernel_rfl) (by kernel_rfl) (Keeps.refl _) ?_
 (repeat (go_big_quiet_step ((first | (go_at_call 139;with_reducible refine Calls.keepsK (HTG.out _)) | (go_at_call 138;with_reducible refine Calls.keepsK (HNT.out _)) | (go_at_call 111;with_reducible refine Calls.keepsK (HU.out _ _ (KWorld.keep _) (by first | exact HLO.out | exact HHI.out)))))))
 refine wpQuiet_nil ?_
 rintro wq ⟨⟨w4,hkq⟩,rfl⟩
 try dsimp only
 go_wp2_with fail
 go_ret
 exact ⟨rfl,hkw.trans (((Keeps.refl _).alloc _).trans hkq)⟩

theorem lead_tag {M:St} {f:Int} {e:Edge} {l:Int} (h:M.leads f e l=true) (hn:M.n ≤ 9):e.tag < 10:=by
 obtain ⟨p1,p2,p3,p4,p5,p6,p7,p8⟩:=plainB_iff.1 (leads_cases h).1
 by_cases c:f ≠ 5 ∨ e.to=0
 ·have:=p7 c;omega
 ·have:=p8 (by omega) (by omega);omega

theorem grec_tags {M:St} (h:M.wf) (hn:M.n ≤ 9) (id:Int):(grec (look M.cs id)).lo.tag < 10 ∧ (grec (look M.cs id)).hi.tag < 10:=by
 cases hl:look M.cs id with
 | none=>exact ⟨by decide,by decide⟩
 | some r=>exact ⟨lead_tag (h.goodRec hl).lo hn,lead_tag (h.goodRec hl).hi hn⟩

theorem unfT_calls {F:Nat → Prop} {w:World} {sb:Nat} {M:St} (h:StoreRep F w sb M) (hn9:M.n ≤ 9):∀ (n:Nat),n ≤ 20 → ∀ (e:Edge) (W:World),Keeps w W → e.ok → e.tag < 10 →
  Calls Tryz.prog 111 #[.pointer (some ⟨sb,0,none⟩),.agg #[.int .u8 e.tag,.int .u32 e.to],.int .i64 ((n:Int) - 1)] W fun r w'=>r=.returned (.string (unfS 5 M n e)) ∧ Keeps W w':=by
 intro n
 induction n with
 | zero=>intro _ e W _ _ _;exact unfT_deep sb e W
 | succ n ih=>
  intro hn e W hW he ht
  have e1:((n + 1:Nat):Int) - 1=(n:Int):=by omega
  rw [e1]
  by_cases h0:e.to=0
  ·have hs:unfS 5 M (n + 1) e=⟨#[48]⟩:=by
    show (if (5:Int)=5 then (if e.to=0 then _ else _) else _)=_
    rw [if_pos (by decide),if_pos h0]
   rw [hs,h0]
   exact unfT_zero sb e.tag _ W (by omega)
  ·by_cases h1:e.to=1
   ·have hs:unfS 5 M (n + 1) e=digS e.tag ++ ⟨#[64]⟩ ++ ⟨#[49]⟩:=by
     show (if (5:Int)=5 then (if e.to=0 then _ else if e.to=1 then _ else _) else _)=_
     rw [if_pos (by decide),if_neg h0,if_pos h1]
    rw [hs,h1]
    exact unfT_one sb e.tag _ W (by omega) he.1.1 ht
   ·exact unfT_node (h.keeps hW) hn9 e _ n (by omega) (by omega) (by omega) he (by have:=he.2.1;omega) ht (grec_tags h.wf hn9 e.to) (fun e' W2 h2 he' ht'=>ih (by omega) e' W2 (hW.trans h2) he' ht')

end Go.Proofs.YtfpjogpjocedaaaGreat
