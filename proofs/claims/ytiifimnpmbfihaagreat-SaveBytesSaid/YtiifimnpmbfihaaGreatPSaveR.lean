/-
  Plainly: what bytes are read as; an edge's bytes are read as its text.
-/
import Derived.Test.YtiifimnpmbfihaaGreatPSaveP
namespace Go.Proofs.YtiifimnpmbfihaaGreat
set_option linter.unusedSimpArgs false
set_option linter.unusedVariables false
set_option maxHeartbeats 600000

theorem edgeB_pos (f:Int) (S:List Int) (e:Edge):1 ≤ (edgeB f S e).length:=by
 unfold edgeB
 rw [List.length_append]
 have:=putB_pos (if e.to < 2 then e.to.toNat else S.idxOf e.to + 2)
 omega

open Go.RowKit

set_option maxRecDepth 100000 in
set_option maxHeartbeats 2000000 in
theorem tbdd_right {F:Nat → Prop} {w:World} {sb:Nat} {M:St} (h:StoreRep F w sb M) (v:Edge) (l:Int) (hv:v.ok) :
  Calls Tryz.prog 173 #[.pointer (some ⟨sb,0,none⟩),.agg #[.int .u8 v.tag,.int .u32 v.to],.int .i64 l] w fun r w'=>r=.returned (.bool (rightL M 5 v l)) ∧ Keeps w w':=by
 have hwf:=Lib.hid h.wf
 have HRK:=Lib.hid (fun (id:Int) (r:Rec) (hl:look M.cs id=some r)=>h.fit hl)
 have hn16:=h.wf.n16
 have hfew:=h.few
 have hlenr:=reachL_few h.wf h.few [v.to]
 have HG:=Lib.hid (fun (W:World) (hW:Keeps w W) (id:Int) (hid:id ≤ 4294967295)=>store_get (h.keeps hW) id hid)
 have hleads:=fun (W:World) (hW:Keeps w W)=>store_leads (h.keeps hW) 5 v l hv
 have HRE:=Lib.hid (fun (W:World) (hW:Keeps w W) (b:Nat) (cap:Nat) (hE:IsEdges W (some ⟨b,0,none⟩) 1 [v])=>reach_calls (h.keeps hW) (some ⟨b,0,none⟩) 1 cap [v] hE (by omega))
 clear h
 rcases bool_cases (M.leads 5 v l) with hb | hb
 ·rw [hb] at hleads
  have HL:=Lib.hid hleads
  have HF:=Lib.hid (rightL_no hb)
  clear hleads hb
  go_enter Tryz.func173,Tryz.ntmps173
  go_wp2_with (first | (go_at_call 163;refine (HL.out _ (by (exact kp))).mono ?_;rintro e w1 ⟨rfl,hk⟩) | fail)
  go_ret
  exact ⟨by rw [HF.out];rfl,by (exact kp)⟩
 ·rw [hb] at hleads
  have HL:=Lib.hid hleads
  have HB:=Lib.hid hb
  clear hleads hb
  go_enter Tryz.func173,Tryz.ntmps173
  go_wp2_with (first | (go_at_call 163;refine (HL.out _ (by (exact kp))).mono ?_;rintro e w1 ⟨rfl,hk⟩;have z0:w1.cell? ⟨w.heap.size,0,none⟩=some (.int .u8 v.tag):=hk.cell (by simp);have z1:w1.cell? ⟨w.heap.size,1,none⟩=some (.int .u32 v.to):=hk.cell (by simp);have hk1:Keeps w w1:=(by (exact kp))) | fail)
  refine (HRE.out _ (by (exact kp)) _ _ (isEdges_one hv (by simp [go_sem]) (by simp [go_sem]))).mono ?_
  rintro e w2 ⟨vv,rfl,hrow,hk2⟩
  obtain ⟨ids,hids⟩:∃ ids,ids=reachL M.cs [v.to]:=⟨_,rfl⟩
  have hrow:IdRow w2 vv ids:=by rw [hids];exact hrow
  rw [← hids] at hlenr
  obtain ⟨a,cap,rfl,hc⟩:=hrow
  have HID:=Lib.hid hids
  have HC:=Lib.hid hc
  have HK2:=Lib.hid (show Keeps w w2 by (exact kp))
  clear hids hc hk2 hk hk1 z0 z1 hv
  go_wp2_with fail
  go_loopg [21] ids.length (fun gk s21 wr=>∃ d:Nat,d + gk=ids.length ∧ s21=.int .i64 (d:Int) ∧ Keeps w2 wr ∧ ∀ (i:Nat) (id:Int),i < d → ids[i]?=some id → wrongB M 5 (grec (look M.cs id))=false)
  case atStart=>exact ⟨0,by omega,rfl,Keeps.refl _,fun i id hi=>absurd hi (by omega)⟩
  case round=>
   obtain ⟨d,hd,rfl,hk,hw⟩:=hrel
   have HK:=Lib.hid hk
   have HW:=Lib.hid hw
   clear hk hw
   by_cases hlt:d < ids.length
   ·obtain ⟨id,hid⟩:∃ id,ids[d]?=some id:=⟨_,List.getElem?_eq_getElem hlt⟩
    obtain ⟨g,rfl,hcell⟩:=HC.out d id hid
    have cd:=HK.out.cell hcell
    have HI:=Lib.hid hid
    obtain ⟨x,hx,gx,i2,i3⟩:=reach_rec hwf.out (d:=d) (id:=id) (es:=[v.to]) (by rw [← HID.out];exact hid)
    have t1:=gx.tb
    have t2:=gx.bn
    have hokx:=HRK.out id x hx
    have tok:0 ≤ x.top:=hokx.top.1
    have tok2:0 ≤ x.bot:=hokx.bot.1
    have tlo:=hokx.lo.2.2
    have HX:=Lib.hid hx
    have hkw:Keeps w wr:=HK2.out.trans HK.out
    have hnext:Hid (wrongB M 5 (grec (look M.cs id))=false → ∀ (i:Nat) (id':Int),i < d + 1 → ids[i]?=some id' → wrongB M 5 (grec (look M.cs id'))=false):=Lib.hid (fun hf i id' hi hi'=>by
     by_cases hid:i < d
     ·exact HW.out i id' hid hi'
     ·obtain rfl:i=d:=by omega
      rw [HI.out] at hi'
      cases hi'
      exact hf)
    have hstop:Hid (wrongB M 5 (grec (look M.cs id))=true → rightL M 5 v l=false):=Lib.hid (fun hf=>rightL_bad (d:=d) (id:=id) (by rw [← HID.out];exact HI.out) hf)
    clear hid hcell hokx
    have HGx:Hid (∀ W,Keeps w W → Calls Tryz.prog 99 #[.pointer (some ⟨sb,0,none⟩),.int .u32 id] W fun e w'=>e=.returned (.tuple #[.agg #[.int .u8 x.form,.int .u8 x.top,.int .u8 x.bot,.int .u8 x.lo.tag,.int .u32 x.lo.to,.int .u8 x.hi.tag,.int .u32 x.hi.to],.bool true]) ∧ Keeps W w'):=
     Lib.hid (fun W hW=>by have:=HG.out W hW id (by omega);rw [hx] at this;exact this)
    have hwx:wrongB M 5 (grec (look M.cs id))=(decide (x.hi.to=0) && decide (x.lo.tag=x.top + 1)):=by rw [hx];rfl
    have HWx:=Lib.hid hwx
    clear hwx
    clear hx hkw gx
    by_cases c1:x.hi.to=0
    ·by_cases c2:x.lo.tag=x.top + 1
     ·go_wp2_with (first | (go_at_call 99;refine (HGx.out _ (HK2.out.trans HK.out)).mono ?_;rintro e w3 ⟨rfl,hb3⟩) | fail)
      go_ret
      exact ⟨by rw [hstop.out (by rw [HWx.out];simp [c1,c2])];rfl,by have:=HK2.out;have:=HK.out;(exact kp)⟩
     ·go_wp2_with (first | (go_at_call 99;refine (HGx.out _ (HK2.out.trans HK.out)).mono ?_;rintro e w3 ⟨rfl,hb3⟩) | fail)
      go_roundg (gk - 1)
      case rel=>exact ⟨d + 1,by omega,by simp,by have:=HK.out;(exact kp),hnext.out (by rw [HWx.out];simp [c1,c2])⟩
      case measure=>omega
    ·go_wp2_with (first | (go_at_call 99;refine (HGx.out _ (HK2.out.trans HK.out)).mono ?_;rintro e w3 ⟨rfl,hb3⟩) | fail)
     go_roundg (gk - 1)
     case rel=>exact ⟨d + 1,by omega,by simp,by have:=HK.out;(exact kp),hnext.out (by rw [HWx.out];simp [c1])⟩
     case measure=>omega
   ·go_wp2
    go_ret
    have hd':d=ids.length:=by omega
    refine ⟨by rw [rightL_good HB.out (fun i id hi hi'=>HW.out i id (by rw [← HID.out] at hi;omega) (by rw [HID.out];exact hi'))];rfl,HK2.out.trans HK.out⟩

end Go.Proofs.YtiifimnpmbfihaaGreat
