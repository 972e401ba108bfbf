/-
  The walk of cbdd.Right (printed by wip/mk_right.py).
-/
import Derived.Test.YtfpjogpjocedaaaGreatPHPlainA
namespace Go.Proofs.YtfpjogpjocedaaaGreat
set_option linter.unusedSimpArgs false
set_option linter.unusedVariables false
set_option maxHeartbeats 600000
open Go.RowKit

set_option maxRecDepth 100000 in
set_option maxHeartbeats 2000000 in
theorem cbdd_right {F:Nat → Prop} {w:World} {sb:Nat} {M:St} (h:StoreRep F w sb M) (v:Edge) (l:Int) (hv:v.ok) :
  Calls Tryz.prog 101 #[.pointer (some ⟨sb,0,none⟩),.agg #[.int .u8 v.tag,.int .u32 v.to],.int .i64 l] w fun r w'=>r=.returned (.bool (rightL M 3 v l)) ∧ Keeps w w':=by
 have hwf:=Lib.hid h.wf
 have HRK:=Lib.hid (fun (id:Int) (r:Rec) (hl:look M.cs id=some r)=>h.fit hl)
 have hn16:=h.wf.n16
 have hfew:=h.few
 have hlenr:=reachL_few h.wf h.few [v.to]
 have HG:=Lib.hid (fun (W:World) (hW:Keeps w W) (id:Int) (hid:id ≤ 4294967295)=>store_get (h.keeps hW) id hid)
 have hleads:=fun (W:World) (hW:Keeps w W)=>store_leads (h.keeps hW) 3 v l hv
 have HRE:=Lib.hid (fun (W:World) (hW:Keeps w W) (b:Nat) (cap:Nat) (hE:IsEdges W (some ⟨b,0,none⟩) 1 [v])=>reach_calls (h.keeps hW) (some ⟨b,0,none⟩) 1 cap [v] hE (by omega))
 clear h
 rcases bool_cases (M.leads 3 v l) with hb | hb
 ·rw [hb] at hleads
  have HL:=Lib.hid hleads
  have HF:=Lib.hid (rightL_no hb)
  clear hleads hb
  go_enter Tryz.func101,Tryz.ntmps101
  go_wp2_with (first | (go_at_call 75;refine (HL.out _ (by (exact kp))).mono ?_;rintro e w1 ⟨rfl,hk⟩) | fail)
  go_ret
  exact ⟨by rw [HF.out];rfl,by (exact kp)⟩
 ·rw [hb] at hleads
  have HL:=Lib.hid hleads
  have HB:=Lib.hid hb
  clear hleads hb
  go_enter Tryz.func101,Tryz.ntmps101
  go_wp2_with (first | (go_at_call 75;refine (HL.out _ (by (exact kp))).mono ?_;rintro e w1 ⟨rfl,hk⟩;have z0:w1.cell? ⟨w.heap.size,0,none⟩=some (.int .u8 v.tag):=hk.cell (by simp);have z1:w1.cell? ⟨w.heap.size,1,none⟩=some (.int .u32 v.to):=hk.cell (by simp);have hk1:Keeps w w1:=(by (exact kp))) | fail)
  refine (HRE.out _ (by (exact kp)) _ _ (isEdges_one hv (by simp [go_sem]) (by simp [go_sem]))).mono ?_
  rintro e w2 ⟨vv,rfl,hrow,hk2⟩
  obtain ⟨ids,hids⟩:∃ ids,ids=reachL M.cs [v.to]:=⟨_,rfl⟩
  have hrow:IdRow w2 vv ids:=by rw [hids];exact hrow
  rw [← hids] at hlenr
  obtain ⟨a,cap,rfl,hc⟩:=hrow
  have HID:=Lib.hid hids
  have HC:=Lib.hid hc
  have HK2:=Lib.hid (show Keeps w w2 by (exact kp))
  clear hids hc hk2 hk hk1 z0 z1 hv
  go_wp2_with fail
  go_loopg [23] ids.length (fun gk s23 wr=>∃ d:Nat,d + gk=ids.length ∧ s23=.int .i64 (d:Int) ∧ Keeps w2 wr ∧ ∀ (i:Nat) (id:Int),i < d → ids[i]?=some id → wrongB M 3 (grec (look M.cs id))=false)
  case atStart=>exact ⟨0,by omega,rfl,Keeps.refl _,fun i id hi=>absurd hi (by omega)⟩
  case round=>
   obtain ⟨d,hd,rfl,hk,hw⟩:=hrel
   have HK:=Lib.hid hk
   have HW:=Lib.hid hw
   clear hk hw
   by_cases hlt:d < ids.length
   ·obtain ⟨id,hid⟩:∃ id,ids[d]?=some id:=⟨_,List.getElem?_eq_getElem hlt⟩
    obtain ⟨g,rfl,hcell⟩:=HC.out d id hid
    have cd:=HK.out.cell hcell
    have HI:=Lib.hid hid
    obtain ⟨x,hx,gx,i2,i3⟩:=reach_rec hwf.out (d:=d) (id:=id) (es:=[v.to]) (by rw [← HID.out];exact hid)
    have t1:=gx.tb
    have t2:=gx.bn
    have hokx:=HRK.out id x hx
    have tok:0 ≤ x.top:=hokx.top.1
    have tok2:0 ≤ x.bot:=hokx.bot.1
    have tlo:=hokx.lo.2.2
    have HX:=Lib.hid hx
    have hkw:Keeps w wr:=HK2.out.trans HK.out
    have hnext:Hid (wrongB M 3 (grec (look M.cs id))=false → ∀ (i:Nat) (id':Int),i < d + 1 → ids[i]?=some id' → wrongB M 3 (grec (look M.cs id'))=false):=Lib.hid (fun hf i id' hi hi'=>by
     by_cases hid:i < d
     ·exact HW.out i id' hid hi'
     ·obtain rfl:i=d:=by omega
      rw [HI.out] at hi'
      cases hi'
      exact hf)
    have hstop:Hid (wrongB M 3 (grec (look M.cs id))=true → rightL M 3 v l=false):=Lib.hid (fun hf=>rightL_bad (d:=d) (id:=id) (by rw [← HID.out];exact HI.out) hf)
    clear hid hcell hokx
    have HGx:Hid (∀ W,Keeps w W → Calls Tryz.prog 46 #[.pointer (some ⟨sb,0,none⟩),.int .u32 id] W fun e w'=>e=.returned (.tuple #[.agg #[.int .u8 x.form,.int .u8 x.top,.int .u8 x.bot,.int .u8 x.lo.tag,.int .u32 x.lo.to,.int .u8 x.hi.tag,.int .u32 x.hi.to],.bool true]) ∧ Keeps W w'):=
     Lib.hid (fun W hW=>by have:=HG.out W hW id (by omega);rw [hx] at this;exact this)
    have hwn:Hid (look M.cs x.lo.to=none → wrongB M 3 (grec (look M.cs id))=false):=Lib.hid (fun hy=>by rw [hx];show (match look M.cs x.lo.to with | none=>false | some z=>_)=false;rw [hy])
    have hwy:Hid (∀ y,look M.cs x.lo.to=some y → wrongB M 3 (grec (look M.cs id))=(decide (y.top=x.bot + 1) && decide (y.hi=x.hi))):=Lib.hid (fun y hy=>by rw [hx];show (match look M.cs x.lo.to with | none=>false | some z=>_)=_;rw [hy];rfl)
    clear gx
    cases hy:look M.cs x.lo.to with
    | none=>
     have HGy:Hid (∀ W,Keeps w W → Calls Tryz.prog 46 #[.pointer (some ⟨sb,0,none⟩),.int .u32 x.lo.to] W fun e w'=>e=.returned (.tuple #[.agg #[.int .u8 Rec.zero.form,.int .u8 Rec.zero.top,.int .u8 Rec.zero.bot,.int .u8 Rec.zero.lo.tag,.int .u32 Rec.zero.lo.to,.int .u8 Rec.zero.hi.tag,.int .u32 Rec.zero.hi.to],.bool false]) ∧ Keeps W w'):=
      Lib.hid (fun W hW=>by have:=HG.out W hW x.lo.to tlo;rw [hy] at this;exact this)
     have hz:=Lib.hid (hwn.out hy)
     clear hx hy
     (go_wp2_with fail
      refine (HGx.out _ hkw).mono ?_
      rintro e w3 ⟨rfl,hb3⟩
      go_wp2_with fail
      refine (HGy.out _ (by (exact kp))).mono ?_
      rintro e w4 ⟨rfl,hb4⟩
      have p0:=hb4.cell (a:=⟨w3.heap.size,2,none⟩) (v:=.int .u8 x.bot) (by simp [go_sem])
      have p1:=hb4.cell (a:=⟨w3.heap.size,3,none⟩) (v:=.int .u8 x.lo.tag) (by simp [go_sem])
      have p2:=hb4.cell (a:=⟨w3.heap.size,4,none⟩) (v:=.int .u32 x.lo.to) (by simp [go_sem])
      have p3:=hb4.cell (a:=⟨w3.heap.size,5,none⟩) (v:=.int .u8 x.hi.tag) (by simp [go_sem])
      have p4:=hb4.cell (a:=⟨w3.heap.size,6,none⟩) (v:=.int .u32 x.hi.to) (by simp [go_sem])
      have hs4:=hb4.size
      simp only [World.size_alloc] at hs4
      have hs5:w3.heap.size < w4.heap.size:=by omega
      go_wp2_with fail)
     go_roundg (gk - 1)
     case rel=>exact ⟨d + 1,by omega,by simp,by have:=HK.out;(exact kp),hnext.out (by exact hz.out)⟩
     case measure=>omega
    | some y=>
     have HGy:Hid (∀ W,Keeps w W → Calls Tryz.prog 46 #[.pointer (some ⟨sb,0,none⟩),.int .u32 x.lo.to] W fun e w'=>e=.returned (.tuple #[.agg #[.int .u8 y.form,.int .u8 y.top,.int .u8 y.bot,.int .u8 y.lo.tag,.int .u32 y.lo.to,.int .u8 y.hi.tag,.int .u32 y.hi.to],.bool true]) ∧ Keeps W w'):=
      Lib.hid (fun W hW=>by have:=HG.out W hW x.lo.to tlo;rw [hy] at this;exact this)
     have hz:=Lib.hid (hwy.out y hy)
     clear hx hy
     by_cases c1:y.top=x.bot + 1
     ·by_cases c2:y.hi=x.hi
      ·have hq:=eql_same y.hi x.hi c2
       have hz:Hid (wrongB M 3 (grec (look M.cs id))=true):=Lib.hid (by rw [hz.out];simp [c1,c2])
       have HC2:=Lib.hid c2
       clear c2
       (go_wp2_with fail
        refine (HGx.out _ hkw).mono ?_
        rintro e w3 ⟨rfl,hb3⟩
        go_wp2_with fail
        refine (HGy.out _ (by (exact kp))).mono ?_
        rintro e w4 ⟨rfl,hb4⟩
        have p0:=hb4.cell (a:=⟨w3.heap.size,2,none⟩) (v:=.int .u8 x.bot) (by simp [go_sem])
        have p1:=hb4.cell (a:=⟨w3.heap.size,3,none⟩) (v:=.int .u8 x.lo.tag) (by simp [go_sem])
        have p2:=hb4.cell (a:=⟨w3.heap.size,4,none⟩) (v:=.int .u32 x.lo.to) (by simp [go_sem])
        have p3:=hb4.cell (a:=⟨w3.heap.size,5,none⟩) (v:=.int .u8 x.hi.tag) (by simp [go_sem])
        have p4:=hb4.cell (a:=⟨w3.heap.size,6,none⟩) (v:=.int .u32 x.hi.to) (by simp [go_sem])
        have hs4:=hb4.size
        simp only [World.size_alloc] at hs4
        have hs5:w3.heap.size < w4.heap.size:=by omega
        go_wp2_with fail)
       go_ret
       exact ⟨by rw [hstop.out (by exact hz.out)];rfl,by have:=HK2.out;have:=HK.out;(exact kp)⟩
      ·have hq:=eql_other y.hi x.hi c2
       have hz:Hid (wrongB M 3 (grec (look M.cs id))=false):=Lib.hid (by rw [hz.out];simp [c1,c2])
       have HC2:=Lib.hid c2
       clear c2
       (go_wp2_with fail
        refine (HGx.out _ hkw).mono ?_
        rintro e w3 ⟨rfl,hb3⟩
        go_wp2_with fail
        refine (HGy.out _ (by (exact kp))).mono ?_
        rintro e w4 ⟨rfl,hb4⟩
        have p0:=hb4.cell (a:=⟨w3.heap.size,2,none⟩) (v:=.int .u8 x.bot) (by simp [go_sem])
        have p1:=hb4.cell (a:=⟨w3.heap.size,3,none⟩) (v:=.int .u8 x.lo.tag) (by simp [go_sem])
        have p2:=hb4.cell (a:=⟨w3.heap.size,4,none⟩) (v:=.int .u32 x.lo.to) (by simp [go_sem])
        have p3:=hb4.cell (a:=⟨w3.heap.size,5,none⟩) (v:=.int .u8 x.hi.tag) (by simp [go_sem])
        have p4:=hb4.cell (a:=⟨w3.heap.size,6,none⟩) (v:=.int .u32 x.hi.to) (by simp [go_sem])
        have hs4:=hb4.size
        simp only [World.size_alloc] at hs4
        have hs5:w3.heap.size < w4.heap.size:=by omega
        go_wp2_with fail)
       go_roundg (gk - 1)
       case rel=>exact ⟨d + 1,by omega,by simp,by have:=HK.out;(exact kp),hnext.out (by exact hz.out)⟩
       case measure=>omega
     ·have hz:Hid (wrongB M 3 (grec (look M.cs id))=false):=Lib.hid (by rw [hz.out];simp [c1])
      (go_wp2_with fail
       refine (HGx.out _ hkw).mono ?_
       rintro e w3 ⟨rfl,hb3⟩
       go_wp2_with fail
       refine (HGy.out _ (by (exact kp))).mono ?_
       rintro e w4 ⟨rfl,hb4⟩
       have p0:=hb4.cell (a:=⟨w3.heap.size,2,none⟩) (v:=.int .u8 x.bot) (by simp [go_sem])
       have p1:=hb4.cell (a:=⟨w3.heap.size,3,none⟩) (v:=.int .u8 x.lo.tag) (by simp [go_sem])
       have p2:=hb4.cell (a:=⟨w3.heap.size,4,none⟩) (v:=.int .u32 x.lo.to) (by simp [go_sem])
       have p3:=hb4.cell (a:=⟨w3.heap.size,5,none⟩) (v:=.int .u8 x.hi.tag) (by simp [go_sem])
       have p4:=hb4.cell (a:=⟨w3.heap.size,6,none⟩) (v:=.int .u32 x.hi.to) (by simp [go_sem])
       have hs4:=hb4.size
       simp only [World.size_alloc] at hs4
       have hs5:w3.heap.size < w4.heap.size:=by omega
       go_wp2_with fail)
      go_roundg (gk - 1)
      case rel=>exact ⟨d + 1,by omega,by simp,by have:=HK.out;(exact kp),hnext.out (by exact hz.out)⟩
      case measure=>omega
   ·go_wp2
    go_ret
    have hd':d=ids.length:=by omega
    refine ⟨by rw [rightL_good HB.out (fun i id hi hi'=>HW.out i id (by rw [← HID.out] at hi;omega) (by rw [HID.out];exact hi'))];rfl,HK2.out.trans HK.out⟩

set_option maxRecDepth 100000 in
set_option maxHeartbeats 2000000 in
theorem ref14_right {F:Nat → Prop} {w:World} {mb:Nat} {M:St} {L:List (Int × Rec)} (h:RefRep F w mb M L) (v:Edge) (l:Int) (hv:v.ok) :
  Calls Tryz.prog 50 #[.pointer (some ⟨mb,0,none⟩),.agg #[.int .u8 v.tag,.int .u32 v.to],.int .i64 l] w fun r w'=>r=.returned (.bool (rightL M 3 v l)) ∧ Keeps w w':=by
 have hwf:=Lib.hid h.wf
 have HRK:=Lib.hid (fun (id:Int) (r:Rec) (hl:look M.cs id=some r)=>h.fit _ ((h.mem id r).2 hl))
 have hn16:=h.wf.n16
 have hfew:=h.few
 have hlenr:=reachL_few h.wf h.few [v.to]
 have HREP:=Lib.hid h
 have HAT:=Lib.hid (fun (W:World) (hW:Keeps w W) (id:Int)=>ref_at (h.keeps hW) id)
 have hleads:=fun (W:World) (hW:Keeps w W)=>ref_leads (h.keeps hW) 3 v l hv
 have HRE:=Lib.hid (fun (W:World) (hW:Keeps w W) (b:Nat) (cap:Nat) (hE:IsEdges W (some ⟨b,0,none⟩) 1 [v])=>ref_reach (h.keeps hW) (some ⟨b,0,none⟩) 1 cap [v] hE (by omega))
 clear h
 rcases bool_cases (M.leads 3 v l) with hb | hb
 ·rw [hb] at hleads
  have HL:=Lib.hid hleads
  have HF:=Lib.hid (rightL_no hb)
  clear hleads hb
  go_enter Tryz.func50,Tryz.ntmps50
  go_wp2_with (first | (go_at_call 80;refine (HL.out _ (by (exact kp))).mono ?_;rintro e w1 ⟨rfl,hk⟩) | fail)
  go_ret
  exact ⟨by rw [HF.out];rfl,by (exact kp)⟩
 ·rw [hb] at hleads
  have HL:=Lib.hid hleads
  have HB:=Lib.hid hb
  clear hleads hb
  go_enter Tryz.func50,Tryz.ntmps50
  go_wp2_with (first | (go_at_call 80;refine (HL.out _ (by (exact kp))).mono ?_;rintro e w1 ⟨rfl,hk⟩;have z0:w1.cell? ⟨w.heap.size,0,none⟩=some (.int .u8 v.tag):=hk.cell (by simp);have z1:w1.cell? ⟨w.heap.size,1,none⟩=some (.int .u32 v.to):=hk.cell (by simp);have hk1:Keeps w w1:=(by (exact kp))) | fail)
  refine (HRE.out _ (by (exact kp)) _ _ (isEdges_one hv (by simp [go_sem]) (by simp [go_sem]))).mono ?_
  rintro e w2 ⟨vv,rfl,hrow,hk2⟩
  obtain ⟨ids,hids⟩:∃ ids,ids=reachL M.cs [v.to]:=⟨_,rfl⟩
  have hrow:IdRow w2 vv ids:=by rw [hids];exact hrow
  rw [← hids] at hlenr
  obtain ⟨a,cap,rfl,hc⟩:=hrow
  have HID:=Lib.hid hids
  have HC:=Lib.hid hc
  have HK2:=Lib.hid (show Keeps w w2 by (exact kp))
  clear hids hc hk2 hk hk1 z0 z1 hv
  go_wp2_with fail
  go_loopg [8] ids.length (fun gk s8 wr=>∃ d:Nat,d + gk=ids.length ∧ s8=.int .i64 (d:Int) ∧ Keeps w2 wr ∧ ∀ (i:Nat) (id:Int),i < d → ids[i]?=some id → wrongB M 3 (grec (look M.cs id))=false)
  case atStart=>exact ⟨0,by omega,rfl,Keeps.refl _,fun i id hi=>absurd hi (by omega)⟩
  case round=>
   obtain ⟨d,hd,rfl,hk,hw⟩:=hrel
   have HK:=Lib.hid hk
   have HW:=Lib.hid hw
   clear hk hw
   by_cases hlt:d < ids.length
   ·obtain ⟨id,hid⟩:∃ id,ids[d]?=some id:=⟨_,List.getElem?_eq_getElem hlt⟩
    obtain ⟨g,rfl,hcell⟩:=HC.out d id hid
    have cd:=HK.out.cell hcell
    have HI:=Lib.hid hid
    obtain ⟨x,hx,gx,i2,i3⟩:=reach_rec hwf.out (d:=d) (id:=id) (es:=[v.to]) (by rw [← HID.out];exact hid)
    have t1:=gx.tb
    have t2:=gx.bn
    have hokx:=HRK.out id x hx
    have tok:0 ≤ x.top:=hokx.top.1
    have tok2:0 ≤ x.bot:=hokx.bot.1
    have tlo:=hokx.lo.2.2
    have HX:=Lib.hid hx
    have hkw:Keeps w wr:=HK2.out.trans HK.out
    have hnext:Hid (wrongB M 3 (grec (look M.cs id))=false → ∀ (i:Nat) (id':Int),i < d + 1 → ids[i]?=some id' → wrongB M 3 (grec (look M.cs id'))=false):=Lib.hid (fun hf i id' hi hi'=>by
     by_cases hid:i < d
     ·exact HW.out i id' hid hi'
     ·obtain rfl:i=d:=by omega
      rw [HI.out] at hi'
      cases hi'
      exact hf)
    have hstop:Hid (wrongB M 3 (grec (look M.cs id))=true → rightL M 3 v l=false):=Lib.hid (fun hf=>rightL_bad (d:=d) (id:=id) (by rw [← HID.out];exact HI.out) hf)
    clear hid hcell hokx
    rcases atI_look HREP.out id with ⟨x',hx',D,hLD,hq,hDl,hat⟩ | ⟨hl',_,_⟩
    case inr=>rw [hx] at hl';cases hl'
    rw [hx] at hx'
    cases hx'
    obtain ⟨lb,lcap,q0,ql,qm,q1,q2,q3,q4,q5,q6,q7⟩:=(HREP.out.keeps hkw).node hLD
    have HATx:Hid (∀ W,Keeps w W → Calls Tryz.prog 55 #[.pointer (some ⟨mb,0,none⟩),.int .u32 id] W fun e w'=>e=.returned (.int .i64 (D:Int)) ∧ W=w'):=
     Lib.hid (fun W hW=>by have:=HAT.out W hW id;rw [hat] at this;exact this)
    have hwn:Hid (look M.cs x.lo.to=none → wrongB M 3 (grec (look M.cs id))=false):=Lib.hid (fun hy=>by rw [hx];show (match look M.cs x.lo.to with | none=>false | some z=>_)=false;rw [hy])
    have hwy:Hid (∀ y,look M.cs x.lo.to=some y → wrongB M 3 (grec (look M.cs id))=(decide (y.top=x.bot + 1) && decide (y.hi=x.hi))):=Lib.hid (fun y hy=>by rw [hx];show (match look M.cs x.lo.to with | none=>false | some z=>_)=_;rw [hy];rfl)
    have HKW:=Lib.hid hkw
    clear hx hq hLD gx hkw hat
    go_upto_region 7 with fail
    go_cut [9] (fun s9 wx=>∃ B,s9=.pointer (some ⟨B,0,none⟩) ∧ (wx.cell? ⟨B,0,none⟩=some (.int .u8 x.form) ∧ wx.cell? ⟨B,1,none⟩=some (.int .u8 x.top) ∧ wx.cell? ⟨B,2,none⟩=some (.int .u8 x.bot) ∧ wx.cell? ⟨B,3,none⟩=some (.int .u8 x.lo.tag) ∧ wx.cell? ⟨B,4,none⟩=some (.int .u32 x.lo.to) ∧ wx.cell? ⟨B,5,none⟩=some (.int .u8 x.hi.tag) ∧ wx.cell? ⟨B,6,none⟩=some (.int .u32 x.hi.to)) ∧ Keeps wr wx)
    case first=>
     have n1:=lt_of_cell q0
     have n2:=lt_of_cell q1
     have n3:=lt_of_cell cd
     dsimp only at n1 n2 n3
     have n4:wr.heap.size ≠ mb:=by omega
     have n5:wr.heap.size ≠ lb:=by omega
     have n6:wr.heap.size ≠ g:=by omega
     go_region_held3 (fun w'=>w'.cell? ⟨mb,0,none⟩=some (.slice (some ⟨lb,0,none⟩) L.length lcap) ∧ w'.cell? ⟨g,d,none⟩=some (.int .u32 id) ∧ w'.cell? ⟨lb,D * 8 + 1,none⟩=some (.int .u8 x.form) ∧ w'.cell? ⟨lb,D * 8 + 2,none⟩=some (.int .u8 x.top) ∧ w'.cell? ⟨lb,D * 8 + 3,none⟩=some (.int .u8 x.bot) ∧ w'.cell? ⟨lb,D * 8 + 4,none⟩=some (.int .u8 x.lo.tag) ∧ w'.cell? ⟨lb,D * 8 + 5,none⟩=some (.int .u32 x.lo.to) ∧ w'.cell? ⟨lb,D * 8 + 6,none⟩=some (.int .u8 x.hi.tag) ∧ w'.cell? ⟨lb,D * 8 + 7,none⟩=some (.int .u32 x.hi.to)) (go_keep) ((first | (go_at_call 55;have hkw:=HKW.out;refine (HATx.out _ (by (exact kp))).mono ?_;rintro e w' ⟨rfl,rfl⟩)))
     all_goals (try go_wp2_with fail)
     all_goals go_meet
     all_goals exact ⟨_,rfl,⟨by simp [go_sem],by simp [go_sem],by simp [go_sem],by simp [go_sem],by simp [go_sem],by simp [go_sem],by simp [go_sem]⟩,by (exact kp)⟩
    case rest=>
     obtain ⟨B,rfl,⟨b0,b1,b2,b3,b4,b5,b6⟩,hkc⟩:=hcut
     have HKC:=Lib.hid hkc
     clear hkc
     have hkw2:Keeps w wc:=HKW.out.trans HKC.out
     have q0c:=HKC.out.cell q0
     clear q0 q1 q2 q3 q4 q5 q6 q7 b0 b1 cd
     rcases atI_look HREP.out x.lo.to with ⟨y,hy,D2,hLD2,hq2,hDl2,hat2⟩ | ⟨hy,hq2,hat2⟩
     case inr=>
      have HATy:Hid (Calls Tryz.prog 55 #[.pointer (some ⟨mb,0,none⟩),.int .u32 x.lo.to] wc fun e w'=>e=.returned (.int .i64 (-1)) ∧ wc=w'):=Lib.hid (by have:=HAT.out wc hkw2 x.lo.to;rw [hat2] at this;exact this)
      have hz:=Lib.hid (hwn.out hy)
      clear hq2 hat2 hy
      go_wp2_with (first | (go_at_call 55;refine HATy.out.mono ?_;rintro e w' ⟨rfl,rfl⟩) | fail)
      refine wp_region_keeps wc (by kernel_rfl) (by kernel_rfl) (Keeps.refl _) ?_
      (repeat (go_big_quiet_step (fail)))
      refine wpQuiet_nil ?_
      rintro wq ⟨⟨_,hkq⟩,rfl⟩
      try dsimp only
      go_wp2_with fail
      go_roundg (gk - 1)
      case rel=>exact ⟨d + 1,by omega,by simp,by have:=HK.out;have:=HKC.out;(exact kp),hnext.out (by exact hz.out)⟩
      case measure=>omega
     case inl=>
      have HATy:Hid (Calls Tryz.prog 55 #[.pointer (some ⟨mb,0,none⟩),.int .u32 x.lo.to] wc fun e w'=>e=.returned (.int .i64 (D2:Int)) ∧ wc=w'):=Lib.hid (by have:=HAT.out wc hkw2 x.lo.to;rw [hat2] at this;exact this)
      have hz:=Lib.hid (hwy.out y hy)
      obtain ⟨lb2,lcap2,r0,rl,rm,r1,r2,r3,r4,r5,r6,r7⟩:=(HREP.out.keeps hkw2).node hLD2
      rw [q0c] at r0
      cases r0
      clear hq2 hat2 hy hLD2 r1 r3 r4 r5
      have kd0:=KWorld.cell q0c
      have kb2:=KWorld.cell b2
      have kb3:=KWorld.cell b3
      have kb4:=KWorld.cell b4
      have kb5:=KWorld.cell b5
      have kb6:=KWorld.cell b6
      have kr2:=KWorld.cell r2
      have kr6:=KWorld.cell r6
      have kr7:=KWorld.cell r7
      by_cases c1:y.top=x.bot + 1
      ·by_cases c2:y.hi=x.hi
       ·have hz:Hid (wrongB M 3 (grec (look M.cs id))=true):=Lib.hid (by rw [hz.out];simp [c1,c2])
        have HSm:=Lib.hid (csame_true y.hi x.hi c2)
        have HC2:=Lib.hid c2
        clear c2
        go_wp2_with (first | (go_at_call 55;refine HATy.out.mono ?_;rintro e w' ⟨rfl,rfl⟩) | fail)
        refine wp_region_keeps wc (by kernel_rfl) (by kernel_rfl) (Keeps.refl _) ?_
        (repeat (go_big_quiet_step ((go_at_call 89;with_reducible refine Calls.keepsK (HSm.out _)))))
        refine wpQuiet_nil ?_
        rintro wq ⟨⟨_,hkq⟩,rfl⟩
        try dsimp only
        go_wp2_with fail
        go_ret
        exact ⟨by rw [hstop.out (by exact hz.out)];rfl,by have:=HK2.out;have:=HK.out;have:=HKC.out;(exact kp)⟩
       ·have hz:Hid (wrongB M 3 (grec (look M.cs id))=false):=Lib.hid (by rw [hz.out];simp [c1,c2])
        have HSm:=Lib.hid (csame_false y.hi x.hi c2)
        have HC2:=Lib.hid c2
        clear c2
        go_wp2_with (first | (go_at_call 55;refine HATy.out.mono ?_;rintro e w' ⟨rfl,rfl⟩) | fail)
        refine wp_region_keeps wc (by kernel_rfl) (by kernel_rfl) (Keeps.refl _) ?_
        (repeat (go_big_quiet_step ((go_at_call 89;with_reducible refine Calls.keepsK (HSm.out _)))))
        refine wpQuiet_nil ?_
        rintro wq ⟨⟨_,hkq⟩,rfl⟩
        try dsimp only
        go_wp2_with fail
        go_roundg (gk - 1)
        case rel=>exact ⟨d + 1,by omega,by simp,by have:=HK.out;have:=HKC.out;(exact kp),hnext.out (by exact hz.out)⟩
        case measure=>omega
      ·have hz:Hid (wrongB M 3 (grec (look M.cs id))=false):=Lib.hid (by rw [hz.out];simp [c1])
       have c1b:(y.top == x.bot + 1)=false:=by simp [c1]
       go_wp2_with (first | (go_at_call 55;refine HATy.out.mono ?_;rintro e w' ⟨rfl,rfl⟩) | fail)
       refine wp_region_keeps wc (by kernel_rfl) (by kernel_rfl) (Keeps.refl _) ?_
       (repeat (go_big_quiet_step (fail)))
       refine wpQuiet_nil ?_
       rintro wq ⟨⟨_,hkq⟩,rfl⟩
       try dsimp only
       go_wp2_with fail
       go_roundg (gk - 1)
       case rel=>exact ⟨d + 1,by omega,by simp,by have:=HK.out;have:=HKC.out;(exact kp),hnext.out (by exact hz.out)⟩
       case measure=>omega
   ·go_wp2
    go_ret
    have hd':d=ids.length:=by omega
    refine ⟨by rw [rightL_good HB.out (fun i id hi hi'=>HW.out i id (by rw [← HID.out] at hi;omega) (by rw [HID.out];exact hi'))];rfl,HK2.out.trans HK.out⟩

end Go.Proofs.YtfpjogpjocedaaaGreat
