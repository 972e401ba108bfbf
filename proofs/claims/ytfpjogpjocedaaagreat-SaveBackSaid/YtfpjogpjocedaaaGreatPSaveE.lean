/-
  The walk of tbdd.Right (printed by wip/mk_right.py).
-/
import Derived.Test.YtfpjogpjocedaaaGreatPSaveP
import Derived.Test.YtfpjogpjocedaaaGreatPSaveW
namespace Go.Proofs.YtfpjogpjocedaaaGreat
set_option linter.unusedSimpArgs false
set_option linter.unusedVariables false
set_option maxHeartbeats 600000
open Go.RowKit

set_option maxRecDepth 100000 in
set_option maxHeartbeats 2000000 in
theorem tbdd_right {F:Nat → Prop} {w:World} {sb:Nat} {M:St} (h:StoreRep F w sb M) (v:Edge) (l:Int) (hv:v.ok) :
  Calls Tryz.prog 103 #[.pointer (some ⟨sb,0,none⟩),.agg #[.int .u8 v.tag,.int .u32 v.to],.int .i64 l] w fun r w'=>r=.returned (.bool (rightL M 5 v l)) ∧ Keeps w w':=by
 have hwf:=Lib.hid h.wf
 have HRK:=Lib.hid (fun (id:Int) (r:Rec) (hl:look M.cs id=some r)=>h.fit hl)
 have hn16:=h.wf.n16
 have hfew:=h.few
 have hlenr:=reachL_few h.wf h.few [v.to]
 have HG:=Lib.hid (fun (W:World) (hW:Keeps w W) (id:Int) (hid:id ≤ 4294967295)=>store_get (h.keeps hW) id hid)
 have hleads:=fun (W:World) (hW:Keeps w W)=>store_leads (h.keeps hW) 5 v l hv
 have HRE:=Lib.hid (fun (W:World) (hW:Keeps w W) (b:Nat) (cap:Nat) (hE:IsEdges W (some ⟨b,0,none⟩) 1 [v])=>reach_calls (h.keeps hW) (some ⟨b,0,none⟩) 1 cap [v] hE (by omega))
 clear h
 rcases bool_cases (M.leads 5 v l) with hb | hb
 ·rw [hb] at hleads
  have HL:=Lib.hid hleads
  have HF:=Lib.hid (rightL_no hb)
  clear hleads hb
  go_enter Tryz.func103,Tryz.ntmps103
  go_wp2_with (first | (go_at_call 75;refine (HL.out _ (by (exact kp))).mono ?_;rintro e w1 ⟨rfl,hk⟩) | fail)
  go_ret
  exact ⟨by rw [HF.out];rfl,by (exact kp)⟩
 ·rw [hb] at hleads
  have HL:=Lib.hid hleads
  have HB:=Lib.hid hb
  clear hleads hb
  go_enter Tryz.func103,Tryz.ntmps103
  go_wp2_with (first | (go_at_call 75;refine (HL.out _ (by (exact kp))).mono ?_;rintro e w1 ⟨rfl,hk⟩;have z0:w1.cell? ⟨w.heap.size,0,none⟩=some (.int .u8 v.tag):=hk.cell (by simp);have z1:w1.cell? ⟨w.heap.size,1,none⟩=some (.int .u32 v.to):=hk.cell (by simp);have hk1:Keeps w w1:=(by (exact kp))) | fail)
  refine (HRE.out _ (by (exact kp)) _ _ (isEdges_one hv (by simp [go_sem]) (by simp [go_sem]))).mono ?_
  rintro e w2 ⟨vv,rfl,hrow,hk2⟩
  obtain ⟨ids,hids⟩:∃ ids,ids=reachL M.cs [v.to]:=⟨_,rfl⟩
  have hrow:IdRow w2 vv ids:=by rw [hids];exact hrow
  rw [← hids] at hlenr
  obtain ⟨a,cap,rfl,hc⟩:=hrow
  have HID:=Lib.hid hids
  have HC:=Lib.hid hc
  have HK2:=Lib.hid (show Keeps w w2 by (exact kp))
  clear hids hc hk2 hk hk1 z0 z1 hv
  go_wp2_with fail
  go_loopg [21] ids.length (fun gk s21 wr=>∃ d:Nat,d + gk=ids.length ∧ s21=.int .i64 (d:Int) ∧ Keeps w2 wr ∧ ∀ (i:Nat) (id:Int),i < d → ids[i]?=some id → wrongB M 5 (grec (look M.cs id))=false)
  case atStart=>exact ⟨0,by omega,rfl,Keeps.refl _,fun i id hi=>absurd hi (by omega)⟩
  case round=>
   obtain ⟨d,hd,rfl,hk,hw⟩:=hrel
   have HK:=Lib.hid hk
   have HW:=Lib.hid hw
   clear hk hw
   by_cases hlt:d < ids.length
   ·obtain ⟨id,hid⟩:∃ id,ids[d]?=some id:=⟨_,List.getElem?_eq_getElem hlt⟩
    obtain ⟨g,rfl,hcell⟩:=HC.out d id hid
    have cd:=HK.out.cell hcell
    have HI:=Lib.hid hid
    obtain ⟨x,hx,gx,i2,i3⟩:=reach_rec hwf.out (d:=d) (id:=id) (es:=[v.to]) (by rw [← HID.out];exact hid)
    have t1:=gx.tb
    have t2:=gx.bn
    have hokx:=HRK.out id x hx
    have tok:0 ≤ x.top:=hokx.top.1
    have tok2:0 ≤ x.bot:=hokx.bot.1
    have tlo:=hokx.lo.2.2
    have HX:=Lib.hid hx
    have hkw:Keeps w wr:=HK2.out.trans HK.out
    have hnext:Hid (wrongB M 5 (grec (look M.cs id))=false → ∀ (i:Nat) (id':Int),i < d + 1 → ids[i]?=some id' → wrongB M 5 (grec (look M.cs id'))=false):=Lib.hid (fun hf i id' hi hi'=>by
     by_cases hid:i < d
     ·exact HW.out i id' hid hi'
     ·obtain rfl:i=d:=by omega
      rw [HI.out] at hi'
      cases hi'
      exact hf)
    have hstop:Hid (wrongB M 5 (grec (look M.cs id))=true → rightL M 5 v l=false):=Lib.hid (fun hf=>rightL_bad (d:=d) (id:=id) (by rw [← HID.out];exact HI.out) hf)
    clear hid hcell hokx
    have HGx:Hid (∀ W,Keeps w W → Calls Tryz.prog 46 #[.pointer (some ⟨sb,0,none⟩),.int .u32 id] W fun e w'=>e=.returned (.tuple #[.agg #[.int .u8 x.form,.int .u8 x.top,.int .u8 x.bot,.int .u8 x.lo.tag,.int .u32 x.lo.to,.int .u8 x.hi.tag,.int .u32 x.hi.to],.bool true]) ∧ Keeps W w'):=
     Lib.hid (fun W hW=>by have:=HG.out W hW id (by omega);rw [hx] at this;exact this)
    have hwx:wrongB M 5 (grec (look M.cs id))=(decide (x.hi.to=0) && decide (x.lo.tag=x.top + 1)):=by rw [hx];rfl
    have HWx:=Lib.hid hwx
    clear hwx
    clear hx hkw gx
    by_cases c1:x.hi.to=0
    ·by_cases c2:x.lo.tag=x.top + 1
     ·go_wp2_with (first | (go_at_call 46;refine (HGx.out _ (HK2.out.trans HK.out)).mono ?_;rintro e w3 ⟨rfl,hb3⟩) | fail)
      go_ret
      exact ⟨by rw [hstop.out (by rw [HWx.out];simp [c1,c2])];rfl,by have:=HK2.out;have:=HK.out;(exact kp)⟩
     ·go_wp2_with (first | (go_at_call 46;refine (HGx.out _ (HK2.out.trans HK.out)).mono ?_;rintro e w3 ⟨rfl,hb3⟩) | fail)
      go_roundg (gk - 1)
      case rel=>exact ⟨d + 1,by omega,by simp,by have:=HK.out;(exact kp),hnext.out (by rw [HWx.out];simp [c1,c2])⟩
      case measure=>omega
    ·go_wp2_with (first | (go_at_call 46;refine (HGx.out _ (HK2.out.trans HK.out)).mono ?_;rintro e w3 ⟨rfl,hb3⟩) | fail)
     go_roundg (gk - 1)
     case rel=>exact ⟨d + 1,by omega,by simp,by have:=HK.out;(exact kp),hnext.out (by rw [HWx.out];simp [c1])⟩
     case measure=>omega
   ·go_wp2
    go_ret
    have hd':d=ids.length:=by omega
    refine ⟨by rw [rightL_good HB.out (fun i id hi hi'=>HW.out i id (by rw [← HID.out] at hi;omega) (by rw [HID.out];exact hi'))];rfl,HK2.out.trans HK.out⟩

structure NumsD (S:List Int) (D:DataW Unit):Prop where
 isMap:Maps.IsMap D
 keys:∀ x,Maps.has D (.int .u32 x)=true ↔ x ∈ S
 vals:∀ x ∈ S,∀ z,D.atKey (.int .u32 x) z=.lit (.int .u64 (S.idxOf x:Int))
 size:Maps.size D=S.length

theorem NumsD.empty:NumsD [] (.map []):=by
 refine ⟨Maps.isMap_empty,fun x=>?_,fun x hx=>by simp at hx,rfl⟩
 simp [Maps.has_eq]

theorem NumsD.put {S:List Int} {D:DataW Unit} (h:NumsD S D) (ht:Maps.Tidy D) {x:Int} (hx:x ∉ S):NumsD (S ++ [x]) (D.put (.int .u32 x) (.lit (.int .u64 (S.length:Int)))):=by
 have hno:Maps.has D (.int .u32 x)=false:=by
  cases hb:Maps.has D (.int .u32 x) with
  | false=>rfl
  | true=>exact absurd ((h.keys x).1 hb) hx
 refine ⟨h.isMap.put _ _,fun y=>?_,fun y hy z=>?_,?_⟩
 ·by_cases hs:y=x
  ·subst hs
   rw [Maps.has_put_same h.isMap (show WideAt.IsKeyLit (.int .u32 y) from True.intro)]
   simp
  ·rw [Maps.has_put_other (fun e=>hs (by cases e;rfl)),h.keys y]
   simp [hs]
 ·by_cases hs:y=x
  ·subst hs
   rw [Maps.atKey_put_same h.isMap (show WideAt.IsKeyLit (.int .u32 y) from True.intro),List.idxOf_append,if_neg hx]
   simp
  ·have hyS:y ∈ S:=by
    rcases List.mem_append.1 hy with hy | hy
    ·exact hy
    ·exact absurd (List.mem_singleton.1 hy) hs
   rw [Maps.atKey_put_other (fun e=>hs (by cases e;rfl)),h.vals y hyS,idxOf_app hyS]
 ·rw [Maps.size_put ht,hno]
  simp [h.size]

def PenMap (w:World) (mb:Nat) (S:List Int):Prop:=∃ D,w.ownsMap Tryz.prog 35 (plainElem (H:=Unit) Tryz.prog 60) mb S.length D ∧ NumsD S D

theorem PenMap.keeps {w w':World} {mb:Nat} {S:List Int} (h:PenMap w mb S) (hk:Keeps w w'):PenMap w' mb S:=by
 obtain ⟨D,h1,h2⟩:=h
 exact ⟨D,h1.kept hk.none (by simp),h2⟩

theorem PenMap.block {w:World} {mb:Nat} {S:List Int} (h:PenMap w mb S):∃ es clock,w.heap[mb]?=some (.map es clock):=by
 obtain ⟨D,⟨es,clock,hb,_⟩,_⟩:=h
 exact ⟨es,clock,hb⟩

theorem PenMap.ne {w:World} {mb:Nat} {S:List Int} (h:PenMap w mb S) {k:Nat} {cs:Array Value} {t:TypeId} {q:Nat × Nat} (hk:w.heap[k]?=some (.cells cs t q)):k ≠ mb:=by
 obtain ⟨es,clock,hb⟩:=h.block
 intro e
 subst e
 rw [hb] at hk
 cases hk

theorem PenMap.upd {w w':World} {mb:Nat} {S:List Int} {G:Nat → Prop} (h:PenMap w mb S) (hu:Upd G w w') (hg:¬ G mb):PenMap w' mb S:=by
 obtain ⟨D,⟨es,clock,hb,rest⟩,h2⟩:=h
 exact ⟨D,⟨es,clock,(hu.block mb (lt_of_heap hb) hg).trans hb,rest⟩,h2⟩

open Go Go.RowKit

set_option maxRecDepth 100000 in
set_option maxHeartbeats 400000 in
theorem pen_edge_low {base:Nat} {w:World} {pb mb:Nat} {f:Int} {c0:Value} {S bs:List Int} (h:Pen base w pb c0 (.int .u8 f) (.map (some mb)) bs) (t k:Nat) (ht:t ≤ 255) (hk:k ≤ 4294967295) (hl:bs.length ≤ 900000000) (gl:((k:Int) < 2)) (hf:f ≠ 5 ∨ ¬ 0 < (k:Int)) :
  Calls Tryz.prog 105 #[.pointer (some ⟨pb,0,none⟩),.agg #[.int .u8 (t:Int),.int .u32 (k:Int)]] w fun r w'=>r=.returned (.tuple #[]) ∧ Pen base w' pb c0 (.int .u8 f) (.map (some mb)) (bs ++ edgeB f S ⟨t,k⟩) ∧ Upd (PF w base pb none) w w':=by
 have HP:=Lib.hid h
 obtain ⟨⟨v,h1,h2⟩,h3⟩:=h
 have hpw:=lt_of_heap h1
 have e1:=HP.out.cell.2.1
 have e3:=HP.out.cell.2.2
 have HLK:=Lib.hid (putB_len10 (n:=k) (by omega))
 have HE:Hid (edgeB f S ⟨t,(k:Int)⟩=putB k):=Lib.hid (by unfold edgeB;rw [if_pos gl,if_neg (fun hh=>by have q:=hh.2;rcases hf with hf | hf;exact hf hh.1;exact hf q)];simp)
 clear h1 h2
 by_cases h5:f=5
 ·subst h5
  have gz:¬ (0 < k):=by omega
  clear hf
  go_enter Tryz.func105,Tryz.ntmps105
  go_wp2_with (first | (go_at_call 106;refine (pen_num (HP.out.keeps (by (exact kp))) k (by omega) (by omega)).mono ?_;rintro e w1 ⟨rfl,hp1,hu1⟩;have x1:=hp1.cell.2.1;have x3:=hp1.cell.2.2;have z0:w1.cell? ⟨w.heap.size,0,none⟩=some (.int .u8 (t:Int)):=hu1.pen_other (heap_alloc_new w _) (by decide) (by omega) (by simp) (by simp);have z1:w1.cell? ⟨w.heap.size,1,none⟩=some (.int .u32 (k:Int)):=hu1.pen_other (heap_alloc_new w _) (by decide) (by omega) (by simp) (by simp);have HP1:=Lib.hid hp1;have HU1:=Lib.hid ((show Upd (PF w base pb none) w _ from ((Keeps.refl w).alloc _).upd _).pens hu1);clear hp1 hu1 HP;go_wp2_with fail;(first | go_end0 | refine bodyPost_ret (results_none rfl _ _ _) rfl ?_);exact ⟨rfl,by rw [HE.out];exact HP1.out,HU1.out⟩) | fail)
 ·have g5:(f == 5)=false:=by simp [h5]
  clear hf h5
  go_enter Tryz.func105,Tryz.ntmps105
  go_wp2_with (first | (go_at_call 106;refine (pen_num (HP.out.keeps (by (exact kp))) k (by omega) (by omega)).mono ?_;rintro e w1 ⟨rfl,hp1,hu1⟩;have x1:=hp1.cell.2.1;have x3:=hp1.cell.2.2;have z0:w1.cell? ⟨w.heap.size,0,none⟩=some (.int .u8 (t:Int)):=hu1.pen_other (heap_alloc_new w _) (by decide) (by omega) (by simp) (by simp);have z1:w1.cell? ⟨w.heap.size,1,none⟩=some (.int .u32 (k:Int)):=hu1.pen_other (heap_alloc_new w _) (by decide) (by omega) (by simp) (by simp);have HP1:=Lib.hid hp1;have HU1:=Lib.hid ((show Upd (PF w base pb none) w _ from ((Keeps.refl w).alloc _).upd _).pens hu1);clear hp1 hu1 HP;go_wp2_with fail;(first | go_end0 | refine bodyPost_ret (results_none rfl _ _ _) rfl ?_);exact ⟨rfl,by rw [HE.out];exact HP1.out,HU1.out⟩) | fail)

set_option maxRecDepth 100000 in
set_option maxHeartbeats 400000 in
theorem pen_edge_lt {base:Nat} {w:World} {pb mb:Nat} {c0:Value} {S bs:List Int} (h:Pen base w pb c0 (.int .u8 5) (.map (some mb)) bs) (t k:Nat) (ht:t ≤ 255) (hk:k ≤ 4294967295) (hl:bs.length ≤ 900000000) (gl:((k:Int) < 2)) (gp:(0 < (k:Int))) :
  Calls Tryz.prog 105 #[.pointer (some ⟨pb,0,none⟩),.agg #[.int .u8 (t:Int),.int .u32 (k:Int)]] w fun r w'=>r=.returned (.tuple #[]) ∧ Pen base w' pb c0 (.int .u8 5) (.map (some mb)) (bs ++ edgeB 5 S ⟨t,k⟩) ∧ Upd (PF w base pb none) w w':=by
 have HP:=Lib.hid h
 obtain ⟨⟨v,h1,h2⟩,h3⟩:=h
 have hpw:=lt_of_heap h1
 have e1:=HP.out.cell.2.1
 have e3:=HP.out.cell.2.2
 have gp2:0 < k:=by omega
 have HLK:=Lib.hid (putB_len10 (n:=k) (by omega))
 have HE:Hid (edgeB 5 S ⟨t,(k:Int)⟩=putB k ++ putB t):=Lib.hid (by unfold edgeB;rw [if_pos gl,if_pos ⟨rfl,gp⟩];simp)
 clear h1 h2
 go_enter Tryz.func105,Tryz.ntmps105
 go_wp2_with (first | (go_at_call 106;refine (pen_num (HP.out.keeps (by (exact kp))) k (by omega) (by omega)).mono ?_;rintro e w1 ⟨rfl,hp1,hu1⟩;have x1:=hp1.cell.2.1;have x3:=hp1.cell.2.2;have z0:w1.cell? ⟨w.heap.size,0,none⟩=some (.int .u8 (t:Int)):=hu1.pen_other (heap_alloc_new w _) (by decide) (by omega) (by simp) (by simp);have z1:w1.cell? ⟨w.heap.size,1,none⟩=some (.int .u32 (k:Int)):=hu1.pen_other (heap_alloc_new w _) (by decide) (by omega) (by simp) (by simp);have HP1:=Lib.hid hp1;have HU1:=Lib.hid ((show Upd (PF w base pb none) w _ from ((Keeps.refl w).alloc _).upd _).pens hu1);clear hp1 hu1 HP;go_wp2_with (first | (go_at_call 106;refine (pen_num (HP1.out.keeps (by (exact kp))) t (by omega) (by simp only [List.length_append];have:=HLK.out;omega)).mono ?_;rintro e w2 ⟨rfl,hp2,hu2⟩;have HP2:=Lib.hid hp2;have HU2:=Lib.hid (HU1.out.pens hu2);clear hp2 hu2;go_wp2_with fail;(first | go_end0 | refine bodyPost_ret (results_none rfl _ _ _) rfl ?_);exact ⟨rfl,by rw [HE.out,← List.append_assoc];exact HP2.out,HU2.out⟩) | fail)) | fail)

theorem zero_u64 (w:World):(zeroValue 60).run Tryz.prog w=.ok (.int .u64 0) w:=by kernel_rfl

set_option maxRecDepth 100000 in
set_option maxHeartbeats 400000 in
theorem pen_edge_high {base:Nat} {w:World} {pb mb:Nat} {f:Int} {c0:Value} {S bs:List Int} (h:Pen base w pb c0 (.int .u8 f) (.map (some mb)) bs) (hm:PenMap w mb S) (t k:Nat) (ht:t ≤ 255) (hk:k ≤ 4294967295) (hl:bs.length ≤ 900000000) (gl:¬ ((k:Int) < 2)) (hin:(k:Int) ∈ S) (hS:S.length ≤ 1048576) :
  Calls Tryz.prog 105 #[.pointer (some ⟨pb,0,none⟩),.agg #[.int .u8 (t:Int),.int .u32 (k:Int)]] w fun r w'=>r=.returned (.tuple #[]) ∧ Pen base w' pb c0 (.int .u8 f) (.map (some mb)) (bs ++ edgeB f S ⟨t,k⟩) ∧ Upd (PF w base pb none) w w':=by
 have HP:=Lib.hid h
 have HM:=Lib.hid hm
 obtain ⟨⟨v,h1,h2⟩,h3⟩:=h
 have hpw:=lt_of_heap h1
 have e1:=HP.out.cell.2.1
 have e3:=HP.out.cell.2.2
 have hwf:(Lit.int .u32 (k:Int)).wf=true:=by simp [Lit.wf,show IntKind.u32.min=0 from rfl,show IntKind.u32.max=4294967295 from rfl];omega
 have hkey:=Maps.keyOf_int_mk Tryz.underlying35 hwf
 obtain ⟨n,hn⟩:∃ n,n=S.idxOf (k:Int):=⟨_,rfl⟩
 have hn2:n + 2 ≤ 1048578:=by have:=List.idxOf_le_length (l:=S) (a:=(k:Int));omega
 have HLK:=Lib.hid (putB_len10 (n:=n + 2) (by omega))
 have HLOOK:=Lib.hid (fun (W:World) (hW:Keeps w W)=>by
  obtain ⟨D,q1,q2⟩:=HM.out.keeps hW
  obtain ⟨c,hrun,hat,-⟩:=q1.lookup_int (Maps.int_keyed Tryz.underlying35) Tryz.underlying163 Tryz.underlying60 (zero_u64 _) hkey
  rw [q2.vals _ hin,← hn] at hat
  cases hat
  exact hrun)
 have HN:=Lib.hid hn
 have hwr:IntKind.u64.wrap ((n:Int) + 2)=((n + 2:Nat):Int):=by unfold IntKind.wrap;simp [IntKind.signed,IntKind.bits];omega
 clear h1 h2 hn hm
 by_cases h5:f=5
 ·subst h5
  have gp2:0 < k:=by omega
  have HE:Hid (edgeB 5 S ⟨t,(k:Int)⟩=putB (n + 2) ++ putB t):=Lib.hid (by unfold edgeB;rw [if_neg gl,if_pos ⟨rfl,by show 0 < (k:Int);omega⟩,HN.out];rfl)
  go_enter Tryz.func105,Tryz.ntmps105
  go_upto_region 3 with fail
  have hq:=HLOOK.out (w.alloc (.cells #[.int .u8 (t:Int),.int .u32 (k:Int)] 37)).drew (by (exact kp))
  refine wp_region_head 9 #[true,true,true,true,true,true,true,true,true,false] (by kernel_rfl) (by kernel_rfl) ?_
  simp only [List.take_succ_cons,List.take_zero,List.drop_succ_cons,List.drop_zero]
  repeat still_step
  refine wpStill_nil ?_
  refine wpAny_ready (fuel:=0) (rs:=[9]) (by kernel_rfl) (by decide) (AllReady.cons rfl (fun K hK=>?_) AllReady.nil)
  go_simp
  refine (pen_num (HP.out.keeps (by (exact kp))) (n + 2) (by omega) (by omega)).mono ?_
  rintro e w1 ⟨rfl,hp1,hu1⟩
  have x1:=hp1.cell.2.1
  have x3:=hp1.cell.2.2
  have z0:w1.cell? ⟨w.heap.size,0,none⟩=some (.int .u8 (t:Int)):=hu1.pen_other (heap_alloc_new w _) (by decide) (by omega) (by simp) (by simp)
  have z1:w1.cell? ⟨w.heap.size,1,none⟩=some (.int .u32 (k:Int)):=hu1.pen_other (heap_alloc_new w _) (by decide) (by omega) (by simp) (by simp)
  have HP1:=Lib.hid hp1
  have HU1:=Lib.hid ((show Upd (PF w base pb none) w _ from (((Keeps.refl w).alloc (.cells #[.int .u8 (t:Int),.int .u32 (k:Int)] 37)).drew).upd _).pens hu1)
  clear hp1 hu1 HP hq
  refine hK _ _ ?_
  clear hK K
  refine wpAny_done (by kernel_rfl) ?_ _
  go_wp2_with (first | (go_at_call 106;refine (pen_num (HP1.out.keeps (by (exact kp))) t (by omega) (by simp only [List.length_append];have:=HLK.out;omega)).mono ?_;rintro e w2 ⟨rfl,hp2,hu2⟩;have HP2:=Lib.hid hp2;have HU2:=Lib.hid (HU1.out.pens hu2);clear hp2 hu2;go_wp2_with fail;(first | go_end0 | refine bodyPost_ret (results_none rfl _ _ _) rfl ?_);exact ⟨rfl,by rw [HE.out,← List.append_assoc];exact HP2.out,HU2.out⟩) | fail)
 ·have g5:(f == 5)=false:=by simp [h5]
  have HE:Hid (edgeB f S ⟨t,(k:Int)⟩=putB (n + 2)):=Lib.hid (by unfold edgeB;rw [if_neg gl,if_neg (fun hh=>h5 hh.1),HN.out,List.append_nil])
  clear h5
  go_enter Tryz.func105,Tryz.ntmps105
  go_upto_region 3 with fail
  have hq:=HLOOK.out (w.alloc (.cells #[.int .u8 (t:Int),.int .u32 (k:Int)] 37)).drew (by (exact kp))
  refine wp_region_head 9 #[true,true,true,true,true,true,true,true,true,false] (by kernel_rfl) (by kernel_rfl) ?_
  simp only [List.take_succ_cons,List.take_zero,List.drop_succ_cons,List.drop_zero]
  repeat still_step
  refine wpStill_nil ?_
  refine wpAny_ready (fuel:=0) (rs:=[9]) (by kernel_rfl) (by decide) (AllReady.cons rfl (fun K hK=>?_) AllReady.nil)
  go_simp
  refine (pen_num (HP.out.keeps (by (exact kp))) (n + 2) (by omega) (by omega)).mono ?_
  rintro e w1 ⟨rfl,hp1,hu1⟩
  have x1:=hp1.cell.2.1
  have x3:=hp1.cell.2.2
  have z0:w1.cell? ⟨w.heap.size,0,none⟩=some (.int .u8 (t:Int)):=hu1.pen_other (heap_alloc_new w _) (by decide) (by omega) (by simp) (by simp)
  have z1:w1.cell? ⟨w.heap.size,1,none⟩=some (.int .u32 (k:Int)):=hu1.pen_other (heap_alloc_new w _) (by decide) (by omega) (by simp) (by simp)
  have HP1:=Lib.hid hp1
  have HU1:=Lib.hid ((show Upd (PF w base pb none) w _ from (((Keeps.refl w).alloc (.cells #[.int .u8 (t:Int),.int .u32 (k:Int)] 37)).drew).upd _).pens hu1)
  clear hp1 hu1 HP hq
  refine hK _ _ ?_
  clear hK K
  refine wpAny_done (by kernel_rfl) ?_ _
  go_wp2_with fail
  first | go_end0 | refine bodyPost_ret (results_none rfl _ _ _) rfl ?_
  exact ⟨rfl,by rw [HE.out];exact HP1.out,HU1.out⟩

theorem pen_edge {base:Nat} {w:World} {pb mb:Nat} {f:Int} {c0:Value} {S bs:List Int} (h:Pen base w pb c0 (.int .u8 f) (.map (some mb)) bs) (hm:PenMap w mb S) (e:Edge) (he:e.ok) (hl:bs.length ≤ 900000000) (hin:e.to < 2 ∨ e.to ∈ S) (hS:S.length ≤ 1048576) :
  Calls Tryz.prog 105 #[.pointer (some ⟨pb,0,none⟩),.agg #[.int .u8 e.tag,.int .u32 e.to]] w fun r w'=>r=.returned (.tuple #[]) ∧ Pen base w' pb c0 (.int .u8 f) (.map (some mb)) (bs ++ edgeB f S e) ∧ Upd (PF w base pb none) w w':=by
 obtain ⟨t,k⟩:=e
 obtain ⟨⟨a1,a2⟩,b1,b2⟩:=he
 simp only [] at a1 a2 b1 b2 hin
 obtain ⟨t,rfl⟩:∃ n:Nat,t=(n:Int):=⟨t.toNat,by omega⟩
 obtain ⟨k,rfl⟩:∃ n:Nat,k=(n:Int):=⟨k.toNat,by omega⟩
 by_cases gl:(k:Int) < 2
 ·by_cases hc:f=5 ∧ 0 < (k:Int)
  ·obtain ⟨rfl,gp⟩:=hc
   exact pen_edge_lt h t k (by omega) (by omega) hl gl gp
  ·exact pen_edge_low h t k (by omega) (by omega) hl gl (by omega)
 ·exact pen_edge_high h hm t k (by omega) (by omega) hl gl (hin.resolve_left gl) hS

end Go.Proofs.YtfpjogpjocedaaaGreat
