/-
  The walk of the document's Right, form 5 (printed by wip/mk_right.py).
-/
import Derived.Test.YtiifimnpmbfihaaGreatPHPlainA
namespace Go.Proofs.YtiifimnpmbfihaaGreat
set_option linter.unusedSimpArgs false
set_option linter.unusedVariables false
set_option maxHeartbeats 600000
open Go.RowKit

set_option maxRecDepth 100000 in
set_option maxHeartbeats 2000000 in
theorem ref16_right {F:Nat → Prop} {w:World} {mb:Nat} {M:St} {L:List (Int × Rec)} (h:RefRep F w mb M L) (v:Edge) (l:Int) (hv:v.ok) :
  Calls Tryz.prog 92 #[.pointer (some ⟨mb,0,none⟩),.agg #[.int .u8 v.tag,.int .u32 v.to],.int .i64 l] w fun r w'=>r=.returned (.bool (rightL M 5 v l)) ∧ Keeps w w':=by
 have hwf:=Lib.hid h.wf
 have HRK:=Lib.hid (fun (id:Int) (r:Rec) (hl:look M.cs id=some r)=>h.fit _ ((h.mem id r).2 hl))
 have hn16:=h.wf.n16
 have hfew:=h.few
 have hlenr:=reachL_few h.wf h.few [v.to]
 have HREP:=Lib.hid h
 have HAT:=Lib.hid (fun (W:World) (hW:Keeps w W) (id:Int)=>ref_at (h.keeps hW) id)
 have hleads:=fun (W:World) (hW:Keeps w W)=>ref_leads (h.keeps hW) 5 v l hv
 have HRE:=Lib.hid (fun (W:World) (hW:Keeps w W) (b:Nat) (cap:Nat) (hE:IsEdges W (some ⟨b,0,none⟩) 1 [v])=>ref_reach (h.keeps hW) (some ⟨b,0,none⟩) 1 cap [v] hE (by omega))
 clear h
 rcases bool_cases (M.leads 5 v l) with hb | hb
 ·rw [hb] at hleads
  have HL:=Lib.hid hleads
  have HF:=Lib.hid (rightL_no hb)
  clear hleads hb
  go_enter Tryz.func92,Tryz.ntmps92
  go_wp2_with (first | (go_at_call 107;refine (HL.out _ (by (exact kp))).mono ?_;rintro e w1 ⟨rfl,hk⟩) | fail)
  go_ret
  exact ⟨by rw [HF.out];rfl,by (exact kp)⟩
 ·rw [hb] at hleads
  have HL:=Lib.hid hleads
  have HB:=Lib.hid hb
  clear hleads hb
  go_enter Tryz.func92,Tryz.ntmps92
  go_wp2_with (first | (go_at_call 107;refine (HL.out _ (by (exact kp))).mono ?_;rintro e w1 ⟨rfl,hk⟩;have z0:w1.cell? ⟨w.heap.size,0,none⟩=some (.int .u8 v.tag):=hk.cell (by simp);have z1:w1.cell? ⟨w.heap.size,1,none⟩=some (.int .u32 v.to):=hk.cell (by simp);have hk1:Keeps w w1:=(by (exact kp))) | fail)
  refine (HRE.out _ (by (exact kp)) _ _ (isEdges_one hv (by simp [go_sem]) (by simp [go_sem]))).mono ?_
  rintro e w2 ⟨vv,rfl,hrow,hk2⟩
  obtain ⟨ids,hids⟩:∃ ids,ids=reachL M.cs [v.to]:=⟨_,rfl⟩
  have hrow:IdRow w2 vv ids:=by rw [hids];exact hrow
  rw [← hids] at hlenr
  obtain ⟨a,cap,rfl,hc⟩:=hrow
  have HID:=Lib.hid hids
  have HC:=Lib.hid hc
  have HK2:=Lib.hid (show Keeps w w2 by (exact kp))
  clear hids hc hk2 hk hk1 z0 z1 hv
  go_wp2_with fail
  go_loopg [8] ids.length (fun gk s8 wr=>∃ d:Nat,d + gk=ids.length ∧ s8=.int .i64 (d:Int) ∧ Keeps w2 wr ∧ ∀ (i:Nat) (id:Int),i < d → ids[i]?=some id → wrongB M 5 (grec (look M.cs id))=false)
  case atStart=>exact ⟨0,by omega,rfl,Keeps.refl _,fun i id hi=>absurd hi (by omega)⟩
  case round=>
   obtain ⟨d,hd,rfl,hk,hw⟩:=hrel
   have HK:=Lib.hid hk
   have HW:=Lib.hid hw
   clear hk hw
   by_cases hlt:d < ids.length
   ·obtain ⟨id,hid⟩:∃ id,ids[d]?=some id:=⟨_,List.getElem?_eq_getElem hlt⟩
    obtain ⟨g,rfl,hcell⟩:=HC.out d id hid
    have cd:=HK.out.cell hcell
    have HI:=Lib.hid hid
    obtain ⟨x,hx,gx,i2,i3⟩:=reach_rec hwf.out (d:=d) (id:=id) (es:=[v.to]) (by rw [← HID.out];exact hid)
    have t1:=gx.tb
    have t2:=gx.bn
    have hokx:=HRK.out id x hx
    have tok:0 ≤ x.top:=hokx.top.1
    have tok2:0 ≤ x.bot:=hokx.bot.1
    have tlo:=hokx.lo.2.2
    have HX:=Lib.hid hx
    have hkw:Keeps w wr:=HK2.out.trans HK.out
    have hnext:Hid (wrongB M 5 (grec (look M.cs id))=false → ∀ (i:Nat) (id':Int),i < d + 1 → ids[i]?=some id' → wrongB M 5 (grec (look M.cs id'))=false):=Lib.hid (fun hf i id' hi hi'=>by
     by_cases hid:i < d
     ·exact HW.out i id' hid hi'
     ·obtain rfl:i=d:=by omega
      rw [HI.out] at hi'
      cases hi'
      exact hf)
    have hstop:Hid (wrongB M 5 (grec (look M.cs id))=true → rightL M 5 v l=false):=Lib.hid (fun hf=>rightL_bad (d:=d) (id:=id) (by rw [← HID.out];exact HI.out) hf)
    clear hid hcell hokx
    rcases atI_look HREP.out id with ⟨x',hx',D,hLD,hq,hDl,hat⟩ | ⟨hl',_,_⟩
    case inr=>rw [hx] at hl';cases hl'
    rw [hx] at hx'
    cases hx'
    obtain ⟨lb,lcap,q0,ql,qm,q1,q2,q3,q4,q5,q6,q7⟩:=(HREP.out.keeps hkw).node hLD
    have HATx:Hid (∀ W,Keeps w W → Calls Tryz.prog 95 #[.pointer (some ⟨mb,0,none⟩),.int .u32 id] W fun e w'=>e=.returned (.int .i64 (D:Int)) ∧ W=w'):=
     Lib.hid (fun W hW=>by have:=HAT.out W hW id;rw [hat] at this;exact this)
    have hwx:wrongB M 5 (grec (look M.cs id))=(decide (x.hi.to=0) && decide (x.lo.tag=x.top + 1)):=by rw [hx];rfl
    have HWx:=Lib.hid hwx
    clear hwx
    have HKW:=Lib.hid hkw
    clear hx hq hLD gx hkw hat
    go_upto_region 7 with fail
    go_cut [9] (fun s9 wx=>∃ B,s9=.pointer (some ⟨B,0,none⟩) ∧ (wx.cell? ⟨B,0,none⟩=some (.int .u8 x.form) ∧ wx.cell? ⟨B,1,none⟩=some (.int .u8 x.top) ∧ wx.cell? ⟨B,2,none⟩=some (.int .u8 x.bot) ∧ wx.cell? ⟨B,3,none⟩=some (.int .u8 x.lo.tag) ∧ wx.cell? ⟨B,4,none⟩=some (.int .u32 x.lo.to) ∧ wx.cell? ⟨B,5,none⟩=some (.int .u8 x.hi.tag) ∧ wx.cell? ⟨B,6,none⟩=some (.int .u32 x.hi.to)) ∧ Keeps wr wx)
    case first=>
     have n1:=lt_of_cell q0
     have n2:=lt_of_cell q1
     have n3:=lt_of_cell cd
     dsimp only at n1 n2 n3
     have n4:wr.heap.size ≠ mb:=by omega
     have n5:wr.heap.size ≠ lb:=by omega
     have n6:wr.heap.size ≠ g:=by omega
     go_region_held3 (fun w'=>w'.cell? ⟨mb,0,none⟩=some (.slice (some ⟨lb,0,none⟩) L.length lcap) ∧ w'.cell? ⟨g,d,none⟩=some (.int .u32 id) ∧ w'.cell? ⟨lb,D * 8 + 1,none⟩=some (.int .u8 x.form) ∧ w'.cell? ⟨lb,D * 8 + 2,none⟩=some (.int .u8 x.top) ∧ w'.cell? ⟨lb,D * 8 + 3,none⟩=some (.int .u8 x.bot) ∧ w'.cell? ⟨lb,D * 8 + 4,none⟩=some (.int .u8 x.lo.tag) ∧ w'.cell? ⟨lb,D * 8 + 5,none⟩=some (.int .u32 x.lo.to) ∧ w'.cell? ⟨lb,D * 8 + 6,none⟩=some (.int .u8 x.hi.tag) ∧ w'.cell? ⟨lb,D * 8 + 7,none⟩=some (.int .u32 x.hi.to)) (go_keep) ((first | (go_at_call 95;have hkw:=HKW.out;refine (HATx.out _ (by (exact kp))).mono ?_;rintro e w' ⟨rfl,rfl⟩)))
     all_goals (try go_wp2_with fail)
     all_goals go_meet
     all_goals exact ⟨_,rfl,⟨by simp [go_sem],by simp [go_sem],by simp [go_sem],by simp [go_sem],by simp [go_sem],by simp [go_sem],by simp [go_sem]⟩,by (exact kp)⟩
    case rest=>
     obtain ⟨B,rfl,⟨b0,b1,b2,b3,b4,b5,b6⟩,hkc⟩:=hcut
     have HKC:=Lib.hid hkc
     clear hkc
     by_cases c1:x.hi.to=0
     ·by_cases c2:x.lo.tag=x.top + 1
      ·go_wp2_with fail
       go_ret
       exact ⟨by rw [hstop.out (by rw [HWx.out];simp [c1,c2])];rfl,by have:=HK2.out;have:=HK.out;have:=HKC.out;(exact kp)⟩
      ·go_wp2_with fail
       go_roundg (gk - 1)
       case rel=>exact ⟨d + 1,by omega,by simp,by have:=HK.out;have:=HKC.out;(exact kp),hnext.out (by rw [HWx.out];simp [c1,c2])⟩
       case measure=>omega
     ·go_wp2_with fail
      go_roundg (gk - 1)
      case rel=>exact ⟨d + 1,by omega,by simp,by have:=HK.out;have:=HKC.out;(exact kp),hnext.out (by rw [HWx.out];simp [c1])⟩
      case measure=>omega
   ·go_wp2
    go_ret
    have hd':d=ids.length:=by omega
    refine ⟨by rw [rightL_good HB.out (fun i id hi hi'=>HW.out i id (by rw [← HID.out] at hi;omega) (by rw [HID.out];exact hi'))];rfl,HK2.out.trans HK.out⟩

end Go.Proofs.YtiifimnpmbfihaaGreat
