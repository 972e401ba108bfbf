/-
  The walk of cbdd.Right (printed by wip/mk_right.py).
-/
import Derived.Test.YtfpjogpjocedaaaGreatPRightA
namespace Go.Proofs.YtfpjogpjocedaaaGreat
set_option linter.unusedSimpArgs false
set_option linter.unusedVariables false
set_option maxHeartbeats 600000
open Go.RowKit

set_option maxRecDepth 100000 in
set_option maxHeartbeats 2000000 in
theorem cbdd_right {F:Nat → Prop} {w:World} {sb:Nat} {M:St} (h:StoreRep F w sb M) (v:Edge) (l:Int) (hv:v.ok) :
  Calls Tryz.prog 101 #[.pointer (some ⟨sb,0,none⟩),.agg #[.int .u8 v.tag,.int .u32 v.to],.int .i64 l] w fun r w'=>r=.returned (.bool (rightL M 3 v l)) ∧ Keeps w w':=by
 have hwf:=Lib.hid h.wf
 have HRK:=Lib.hid (fun (id:Int) (r:Rec) (hl:look M.cs id=some r)=>h.fit hl)
 have hn16:=h.wf.n16
 have hfew:=h.few
 have hlenr:=reachL_few h.wf h.few [v.to]
 have HG:=Lib.hid (fun (W:World) (hW:Keeps w W) (id:Int) (hid:id ≤ 4294967295)=>store_get (h.keeps hW) id hid)
 have hleads:=fun (W:World) (hW:Keeps w W)=>store_leads (h.keeps hW) 3 v l hv
 have HRE:=Lib.hid (fun (W:World) (hW:Keeps w W) (b:Nat) (cap:Nat) (hE:IsEdges W (some ⟨b,0,none⟩) 1 [v])=>reach_calls (h.keeps hW) (some ⟨b,0,none⟩) 1 cap [v] hE (by omega))
 clear h
 rcases bool_cases (M.leads 3 v l) with hb | hb
 ·rw [hb] at hleads
  have HL:=Lib.hid hleads
  have HF:=Lib.hid (rightL_no hb)
  clear hleads hb
  go_enter Tryz.func101,Tryz.ntmps101
  go_wp2_with (first | (go_at_call 75;refine (HL.out _ (by (exact kp))).mono ?_;rintro e w1 ⟨rfl,hk⟩) | fail)
  go_ret
  exact ⟨by rw [HF.out];rfl,by (exact kp)⟩
 ·rw [hb] at hleads
  have HL:=Lib.hid hleads
  have HB:=Lib.hid hb
  clear hleads hb
  go_enter Tryz.func101,Tryz.ntmps101
  go_wp2_with (first | (go_at_call 75;refine (HL.out _ (by (exact kp))).mono ?_;rintro e w1 ⟨rfl,hk⟩;have z0:w1.cell? ⟨w.heap.size,0,none⟩=some (.int .u8 v.tag):=hk.cell (by simp);have z1:w1.cell? ⟨w.heap.size,1,none⟩=some (.int .u32 v.to):=hk.cell (by simp);have hk1:Keeps w w1:=(by (exact kp))) | fail)
  refine (HRE.out _ (by (exact kp)) _ _ (isEdges_one hv (by simp [go_sem]) (by simp [go_sem]))).mono ?_
  rintro e w2 ⟨vv,rfl,hrow,hk2⟩
  obtain ⟨ids,hids⟩:∃ ids,ids=reachL M.cs [v.to]:=⟨_,rfl⟩
  have hrow:IdRow w2 vv ids:=by rw [hids];exact hrow
  rw [← hids] at hlenr
  obtain ⟨a,cap,rfl,hc⟩:=hrow
  have HID:=Lib.hid hids
  have HC:=Lib.hid hc
  have HK2:=Lib.hid (show Keeps w w2 by (exact kp))
  clear hids hc hk2 hk hk1 z0 z1 hv
  go_wp2_with fail
  go_loopg [23] ids.length (fun gk s23 wr=>∃ d:Nat,d + gk=ids.length ∧ s23=.int .i64 (d:Int) ∧ Keeps w2 wr ∧ ∀ (i:Nat) (id:Int),i < d → ids[i]?=some id → wrongB M 3 (grec (look M.cs id))=false)
  case atStart=>exact ⟨0,by omega,rfl,Keeps.refl _,fun i id hi=>absurd hi (by omega)⟩
  case round=>
   obtain ⟨d,hd,rfl,hk,hw⟩:=hrel
   have HK:=Lib.hid hk
   have HW:=Lib.hid hw
   clear hk hw
   by_cases hlt:d < ids.length
   ·obtain ⟨id,hid⟩:∃ id,ids[d]?=some id:=⟨_,List.getElem?_eq_getElem hlt⟩
    obtain ⟨g,rfl,hcell⟩:=HC.out d id hid
    have cd:=HK.out.cell hcell
    have HI:=Lib.hid hid
    obtain ⟨x,hx,gx,i2,i3⟩:=reach_rec hwf.out (d:=d) (id:=id) (es:=[v.to]) (by rw [← HID.out];exact hid)
    have t1:=gx.tb
    have t2:=gx.bn
    have hokx:=HRK.out id x hx
    have tok:0 ≤ x.top:=hokx.top.1
    have tok2:0 ≤ x.bot:=hokx.bot.1
    have tlo:=hokx.lo.2.2
    have HX:=Lib.hid hx
    have hkw:Keeps w wr:=HK2.out.trans HK.out
    have hnext:Hid (wrongB M 3 (grec (look M.cs id))=false → ∀ (i:Nat) (id':Int),i < d + 1 → ids[i]?=some id' → wrongB M 3 (grec (look M.cs id'))=false):=Lib.hid (fun hf i id' hi hi'=>by
     by_cases hid:i < d
     ·exact HW.out i id' hid hi'
     ·obtain rfl:i=d:=by omega
      rw [HI.out] at hi'
      cases hi'
      exact hf)
    have hstop:Hid (wrongB M 3 (grec (look M.cs id))=true → rightL M 3 v l=false):=Lib.hid (fun hf=>rightL_bad (d:=d) (id:=id) (by rw [← HID.out];exact HI.out) hf)
    clear hid hcell hokx
    have HGx:Hid (∀ W,Keeps w W → Calls Tryz.prog 46 #[.pointer (some ⟨sb,0,none⟩),.int .u32 id] W fun e w'=>e=.returned (.tuple #[.agg #[.int .u8 x.form,.int .u8 x.top,.int .u8 x.bot,.int .u8 x.lo.tag,.int .u32 x.lo.to,.int .u8 x.hi.tag,.int .u32 x.hi.to],.bool true]) ∧ Keeps W w'):=
     Lib.hid (fun W hW=>by have:=HG.out W hW id (by omega);rw [hx] at this;exact this)
    have hwn:Hid (look M.cs x.lo.to=none → wrongB M 3 (grec (look M.cs id))=false):=Lib.hid (fun hy=>by rw [hx];show (match look M.cs x.lo.to with | none=>false | some z=>_)=false;rw [hy])
    have hwy:Hid (∀ y,look M.cs x.lo.to=some y → wrongB M 3 (grec (look M.cs id))=(decide (y.top=x.bot + 1) && decide (y.hi=x.hi))):=Lib.hid (fun y hy=>by rw [hx];show (match look M.cs x.lo.to with | none=>false | some z=>_)=_;rw [hy];rfl)
    clear gx
    cases hy:look M.cs x.lo.to with
    | none=>
     have HGy:Hid (∀ W,Keeps w W → Calls Tryz.prog 46 #[.pointer (some ⟨sb,0,none⟩),.int .u32 x.lo.to] W fun e w'=>e=.returned (.tuple #[.agg #[.int .u8 Rec.zero.form,.int .u8 Rec.zero.top,.int .u8 Rec.zero.bot,.int .u8 Rec.zero.lo.tag,.int .u32 Rec.zero.lo.to,.int .u8 Rec.zero.hi.tag,.int .u32 Rec.zero.hi.to],.bool false]) ∧ Keeps W w'):=
      Lib.hid (fun W hW=>by have:=HG.out W hW x.lo.to tlo;rw [hy] at this;exact this)
     have hz:=Lib.hid (hwn.out hy)
     clear hx hy
     (go_wp2_with fail
      refine (HGx.out _ hkw).mono ?_
      rintro e w3 ⟨rfl,hb3⟩
      go_wp2_with fail
      refine (HGy.out _ (by (exact kp))).mono ?_
      rintro e w4 ⟨rfl,hb4⟩
      have p0:=hb4.cell (a:=⟨w3.heap.size,2,none⟩) (v:=.int .u8 x.bot) (by simp [go_sem])
      have p1:=hb4.cell (a:=⟨w3.heap.size,3,none⟩) (v:=.int .u8 x.lo.tag) (by simp [go_sem])
      have p2:=hb4.cell (a:=⟨w3.heap.size,4,none⟩) (v:=.int .u32 x.lo.to) (by simp [go_sem])
      have p3:=hb4.cell (a:=⟨w3.heap.size,5,none⟩) (v:=.int .u8 x.hi.tag) (by simp [go_sem])
      have p4:=hb4.cell (a:=⟨w3.heap.size,6,none⟩) (v:=.int .u32 x.hi.to) (by simp [go_sem])
      have hs4:=hb4.size
      simp only [World.size_alloc] at hs4
      have hs5:w3.heap.size < w4.heap.size:=by omega
      go_wp2_with fail)
     go_roundg (gk - 1)
     case rel=>exact ⟨d + 1,by omega,by simp,by have:=HK.out;(exact kp),hnext.out (by exact hz.out)⟩
     case measure=>omega
    | some y=>
     have HGy:Hid (∀ W,Keeps w W → Calls Tryz.prog 46 #[.pointer (some ⟨sb,0,none⟩),.int .u32 x.lo.to] W fun e w'=>e=.returned (.tuple #[.agg #[.int .u8 y.form,.int .u8 y.top,.int .u8 y.bot,.int .u8 y.lo.tag,.int .u32 y.lo.to,.int .u8 y.hi.tag,.int .u32 y.hi.to],.bool true]) ∧ Keeps W w'):=
      Lib.hid (fun W hW=>by have:=HG.out W hW x.lo.to tlo;rw [hy] at this;exact this)
     have hz:=Lib.hid (hwy.out y hy)
     clear hx hy
     by_cases c1:y.top=x.bot + 1
     ·by_cases c2:y.hi=x.hi
      ·have hq:=eql_same y.hi x.hi c2
       have hz:Hid (wrongB M 3 (grec (look M.cs id))=true):=Lib.hid (by rw [hz.out];simp [c1,c2])
       have HC2:=Lib.hid c2
       clear c2
       (go_wp2_with fail
        refine (HGx.out _ hkw).mono ?_
        rintro e w3 ⟨rfl,hb3⟩
        go_wp2_with fail
        refine (HGy.out _ (by (exact kp))).mono ?_
        rintro e w4 ⟨rfl,hb4⟩
        have p0:=hb4.cell (a:=⟨w3.heap.size,2,none⟩) (v:=.int .u8 x.bot) (by simp [go_sem])
        have p1:=hb4.cell (a:=⟨w3.heap.size,3,none⟩) (v:=.int .u8 x.lo.tag) (by simp [go_sem])
        have p2:=hb4.cell (a:=⟨w3.heap.size,4,none⟩) (v:=.int .u32 x.lo.to) (by simp [go_sem])
        have p3:=hb4.cell (a:=⟨w3.heap.size,5,none⟩) (v:=.int .u8 x.hi.tag) (by simp [go_sem])
        have p4:=hb4.cell (a:=⟨w3.heap.size,6,none⟩) (v:=.int .u32 x.hi.to) (by simp [go_sem])
        have hs4:=hb4.size
        simp only [World.size_alloc] at hs4
        have hs5:w3.heap.size < w4.heap.size:=by omega
        go_wp2_with fail)
       go_ret
       exact ⟨by rw [hstop.out (by exact hz.out)];rfl,by have:=HK2.out;have:=HK.out;(exact kp)⟩
      ·have hq:=eql_other y.hi x.hi c2
       have hz:Hid (wrongB M 3 (grec (look M.cs id))=false):=Lib.hid (by rw [hz.out];simp [c1,c2])
       have HC2:=Lib.hid c2
       clear c2
       (go_wp2_with fail
        refine (HGx.out _ hkw).mono ?_
        rintro e w3 ⟨rfl,hb3⟩
        go_wp2_with fail
        refine (HGy.out _ (by (exact kp))).mono ?_
        rintro e w4 ⟨rfl,hb4⟩
        have p0:=hb4.cell (a:=⟨w3.heap.size,2,none⟩) (v:=.int .u8 x.bot) (by simp [go_sem])
        have p1:=hb4.cell (a:=⟨w3.heap.size,3,none⟩) (v:=.int .u8 x.lo.tag) (by simp [go_sem])
        have p2:=hb4.cell (a:=⟨w3.heap.size,4,none⟩) (v:=.int .u32 x.lo.to) (by simp [go_sem])
        have p3:=hb4.cell (a:=⟨w3.heap.size,5,none⟩) (v:=.int .u8 x.hi.tag) (by simp [go_sem])
        have p4:=hb4.cell (a:=⟨w3.heap.size,6,none⟩) (v:=.int .u32 x.hi.to) (by simp [go_sem])
        have hs4:=hb4.size
        simp only [World.size_alloc] at hs4
        have hs5:w3.heap.size < w4.heap.size:=by omega
        go_wp2_with fail)
       go_roundg (gk - 1)
       case rel=>exact ⟨d + 1,by omega,by simp,by have:=HK.out;(exact kp),hnext.out (by exact hz.out)⟩
       case measure=>omega
     ·have hz:Hid (wrongB M 3 (grec (look M.cs id))=false):=Lib.hid (by rw [hz.out];simp [c1])
      (go_wp2_with fail
       refine (HGx.out _ hkw).mono ?_
       rintro e w3 ⟨rfl,hb3⟩
       go_wp2_with fail
       refine (HGy.out _ (by (exact kp))).mono ?_
       rintro e w4 ⟨rfl,hb4⟩
       have p0:=hb4.cell (a:=⟨w3.heap.size,2,none⟩) (v:=.int .u8 x.bot) (by simp [go_sem])
       have p1:=hb4.cell (a:=⟨w3.heap.size,3,none⟩) (v:=.int .u8 x.lo.tag) (by simp [go_sem])
       have p2:=hb4.cell (a:=⟨w3.heap.size,4,none⟩) (v:=.int .u32 x.lo.to) (by simp [go_sem])
       have p3:=hb4.cell (a:=⟨w3.heap.size,5,none⟩) (v:=.int .u8 x.hi.tag) (by simp [go_sem])
       have p4:=hb4.cell (a:=⟨w3.heap.size,6,none⟩) (v:=.int .u32 x.hi.to) (by simp [go_sem])
       have hs4:=hb4.size
       simp only [World.size_alloc] at hs4
       have hs5:w3.heap.size < w4.heap.size:=by omega
       go_wp2_with fail)
      go_roundg (gk - 1)
      case rel=>exact ⟨d + 1,by omega,by simp,by have:=HK.out;(exact kp),hnext.out (by exact hz.out)⟩
      case measure=>omega
   ·go_wp2
    go_ret
    have hd':d=ids.length:=by omega
    refine ⟨by rw [rightL_good HB.out (fun i id hi hi'=>HW.out i id (by rw [← HID.out] at hi;omega) (by rw [HID.out];exact hi'))];rfl,HK2.out.trans HK.out⟩

set_option maxRecDepth 100000 in
set_option maxHeartbeats 2000000 in
theorem czdd_right {F:Nat → Prop} {w:World} {sb:Nat} {M:St} (h:StoreRep F w sb M) (v:Edge) (l:Int) (hv:v.ok) :
  Calls Tryz.prog 102 #[.pointer (some ⟨sb,0,none⟩),.agg #[.int .u8 v.tag,.int .u32 v.to],.int .i64 l] w fun r w'=>r=.returned (.bool (rightL M 4 v l)) ∧ Keeps w w':=by
 have hwf:=Lib.hid h.wf
 have HRK:=Lib.hid (fun (id:Int) (r:Rec) (hl:look M.cs id=some r)=>h.fit hl)
 have hn16:=h.wf.n16
 have hfew:=h.few
 have hlenr:=reachL_few h.wf h.few [v.to]
 have HG:=Lib.hid (fun (W:World) (hW:Keeps w W) (id:Int) (hid:id ≤ 4294967295)=>store_get (h.keeps hW) id hid)
 have hleads:=fun (W:World) (hW:Keeps w W)=>store_leads (h.keeps hW) 4 v l hv
 have HRE:=Lib.hid (fun (W:World) (hW:Keeps w W) (b:Nat) (cap:Nat) (hE:IsEdges W (some ⟨b,0,none⟩) 1 [v])=>reach_calls (h.keeps hW) (some ⟨b,0,none⟩) 1 cap [v] hE (by omega))
 clear h
 rcases bool_cases (M.leads 4 v l) with hb | hb
 ·rw [hb] at hleads
  have HL:=Lib.hid hleads
  have HF:=Lib.hid (rightL_no hb)
  clear hleads hb
  go_enter Tryz.func102,Tryz.ntmps102
  go_wp2_with (first | (go_at_call 75;refine (HL.out _ (by (exact kp))).mono ?_;rintro e w1 ⟨rfl,hk⟩) | fail)
  go_ret
  exact ⟨by rw [HF.out];rfl,by (exact kp)⟩
 ·rw [hb] at hleads
  have HL:=Lib.hid hleads
  have HB:=Lib.hid hb
  clear hleads hb
  go_enter Tryz.func102,Tryz.ntmps102
  go_wp2_with (first | (go_at_call 75;refine (HL.out _ (by (exact kp))).mono ?_;rintro e w1 ⟨rfl,hk⟩;have z0:w1.cell? ⟨w.heap.size,0,none⟩=some (.int .u8 v.tag):=hk.cell (by simp);have z1:w1.cell? ⟨w.heap.size,1,none⟩=some (.int .u32 v.to):=hk.cell (by simp);have hk1:Keeps w w1:=(by (exact kp))) | fail)
  refine (HRE.out _ (by (exact kp)) _ _ (isEdges_one hv (by simp [go_sem]) (by simp [go_sem]))).mono ?_
  rintro e w2 ⟨vv,rfl,hrow,hk2⟩
  obtain ⟨ids,hids⟩:∃ ids,ids=reachL M.cs [v.to]:=⟨_,rfl⟩
  have hrow:IdRow w2 vv ids:=by rw [hids];exact hrow
  rw [← hids] at hlenr
  obtain ⟨a,cap,rfl,hc⟩:=hrow
  have HID:=Lib.hid hids
  have HC:=Lib.hid hc
  have HK2:=Lib.hid (show Keeps w w2 by (exact kp))
  clear hids hc hk2 hk hk1 z0 z1 hv
  go_wp2_with fail
  go_loopg [23] ids.length (fun gk s23 wr=>∃ d:Nat,d + gk=ids.length ∧ s23=.int .i64 (d:Int) ∧ Keeps w2 wr ∧ ∀ (i:Nat) (id:Int),i < d → ids[i]?=some id → wrongB M 4 (grec (look M.cs id))=false)
  case atStart=>exact ⟨0,by omega,rfl,Keeps.refl _,fun i id hi=>absurd hi (by omega)⟩
  case round=>
   obtain ⟨d,hd,rfl,hk,hw⟩:=hrel
   have HK:=Lib.hid hk
   have HW:=Lib.hid hw
   clear hk hw
   by_cases hlt:d < ids.length
   ·obtain ⟨id,hid⟩:∃ id,ids[d]?=some id:=⟨_,List.getElem?_eq_getElem hlt⟩
    obtain ⟨g,rfl,hcell⟩:=HC.out d id hid
    have cd:=HK.out.cell hcell
    have HI:=Lib.hid hid
    obtain ⟨x,hx,gx,i2,i3⟩:=reach_rec hwf.out (d:=d) (id:=id) (es:=[v.to]) (by rw [← HID.out];exact hid)
    have t1:=gx.tb
    have t2:=gx.bn
    have hokx:=HRK.out id x hx
    have tok:0 ≤ x.top:=hokx.top.1
    have tok2:0 ≤ x.bot:=hokx.bot.1
    have tlo:=hokx.lo.2.2
    have HX:=Lib.hid hx
    have hkw:Keeps w wr:=HK2.out.trans HK.out
    have hnext:Hid (wrongB M 4 (grec (look M.cs id))=false → ∀ (i:Nat) (id':Int),i < d + 1 → ids[i]?=some id' → wrongB M 4 (grec (look M.cs id'))=false):=Lib.hid (fun hf i id' hi hi'=>by
     by_cases hid:i < d
     ·exact HW.out i id' hid hi'
     ·obtain rfl:i=d:=by omega
      rw [HI.out] at hi'
      cases hi'
      exact hf)
    have hstop:Hid (wrongB M 4 (grec (look M.cs id))=true → rightL M 4 v l=false):=Lib.hid (fun hf=>rightL_bad (d:=d) (id:=id) (by rw [← HID.out];exact HI.out) hf)
    clear hid hcell hokx
    have HGx:Hid (∀ W,Keeps w W → Calls Tryz.prog 46 #[.pointer (some ⟨sb,0,none⟩),.int .u32 id] W fun e w'=>e=.returned (.tuple #[.agg #[.int .u8 x.form,.int .u8 x.top,.int .u8 x.bot,.int .u8 x.lo.tag,.int .u32 x.lo.to,.int .u8 x.hi.tag,.int .u32 x.hi.to],.bool true]) ∧ Keeps W w'):=
     Lib.hid (fun W hW=>by have:=HG.out W hW id (by omega);rw [hx] at this;exact this)
    have hwn:Hid (look M.cs x.lo.to=none → wrongB M 4 (grec (look M.cs id))=false):=Lib.hid (fun hy=>by rw [hx];show (match look M.cs x.lo.to with | none=>false | some z=>_)=false;rw [hy])
    have hwy:Hid (∀ y,look M.cs x.lo.to=some y → wrongB M 4 (grec (look M.cs id))=(decide (y.top=x.bot + 1) && decide (x.lo=x.hi))):=Lib.hid (fun y hy=>by rw [hx];show (match look M.cs x.lo.to with | none=>false | some z=>_)=_;rw [hy];rfl)
    clear gx
    cases hy:look M.cs x.lo.to with
    | none=>
     have HGy:Hid (∀ W,Keeps w W → Calls Tryz.prog 46 #[.pointer (some ⟨sb,0,none⟩),.int .u32 x.lo.to] W fun e w'=>e=.returned (.tuple #[.agg #[.int .u8 Rec.zero.form,.int .u8 Rec.zero.top,.int .u8 Rec.zero.bot,.int .u8 Rec.zero.lo.tag,.int .u32 Rec.zero.lo.to,.int .u8 Rec.zero.hi.tag,.int .u32 Rec.zero.hi.to],.bool false]) ∧ Keeps W w'):=
      Lib.hid (fun W hW=>by have:=HG.out W hW x.lo.to tlo;rw [hy] at this;exact this)
     have hz:=Lib.hid (hwn.out hy)
     clear hx hy
     (go_wp2_with fail
      refine (HGx.out _ hkw).mono ?_
      rintro e w3 ⟨rfl,hb3⟩
      go_wp2_with fail
      refine (HGy.out _ (by (exact kp))).mono ?_
      rintro e w4 ⟨rfl,hb4⟩
      have p0:=hb4.cell (a:=⟨w3.heap.size,2,none⟩) (v:=.int .u8 x.bot) (by simp [go_sem])
      have p1:=hb4.cell (a:=⟨w3.heap.size,3,none⟩) (v:=.int .u8 x.lo.tag) (by simp [go_sem])
      have p2:=hb4.cell (a:=⟨w3.heap.size,4,none⟩) (v:=.int .u32 x.lo.to) (by simp [go_sem])
      have p3:=hb4.cell (a:=⟨w3.heap.size,5,none⟩) (v:=.int .u8 x.hi.tag) (by simp [go_sem])
      have p4:=hb4.cell (a:=⟨w3.heap.size,6,none⟩) (v:=.int .u32 x.hi.to) (by simp [go_sem])
      have hs4:=hb4.size
      simp only [World.size_alloc] at hs4
      have hs5:w3.heap.size < w4.heap.size:=by omega
      go_wp2_with fail)
     go_roundg (gk - 1)
     case rel=>exact ⟨d + 1,by omega,by simp,by have:=HK.out;(exact kp),hnext.out (by exact hz.out)⟩
     case measure=>omega
    | some y=>
     have HGy:Hid (∀ W,Keeps w W → Calls Tryz.prog 46 #[.pointer (some ⟨sb,0,none⟩),.int .u32 x.lo.to] W fun e w'=>e=.returned (.tuple #[.agg #[.int .u8 y.form,.int .u8 y.top,.int .u8 y.bot,.int .u8 y.lo.tag,.int .u32 y.lo.to,.int .u8 y.hi.tag,.int .u32 y.hi.to],.bool true]) ∧ Keeps W w'):=
      Lib.hid (fun W hW=>by have:=HG.out W hW x.lo.to tlo;rw [hy] at this;exact this)
     have hz:=Lib.hid (hwy.out y hy)
     clear hx hy
     by_cases c1:y.top=x.bot + 1
     ·by_cases c2:x.lo=x.hi
      ·have hq:=eql_same x.lo x.hi c2
       have hz:Hid (wrongB M 4 (grec (look M.cs id))=true):=Lib.hid (by rw [hz.out];simp [c1,c2])
       have HC2:=Lib.hid c2
       clear c2
       (go_wp2_with fail
        refine (HGx.out _ hkw).mono ?_
        rintro e w3 ⟨rfl,hb3⟩
        go_wp2_with fail
        refine (HGy.out _ (by (exact kp))).mono ?_
        rintro e w4 ⟨rfl,hb4⟩
        have p0:=hb4.cell (a:=⟨w3.heap.size,2,none⟩) (v:=.int .u8 x.bot) (by simp [go_sem])
        have p1:=hb4.cell (a:=⟨w3.heap.size,3,none⟩) (v:=.int .u8 x.lo.tag) (by simp [go_sem])
        have p2:=hb4.cell (a:=⟨w3.heap.size,4,none⟩) (v:=.int .u32 x.lo.to) (by simp [go_sem])
        have p3:=hb4.cell (a:=⟨w3.heap.size,5,none⟩) (v:=.int .u8 x.hi.tag) (by simp [go_sem])
        have p4:=hb4.cell (a:=⟨w3.heap.size,6,none⟩) (v:=.int .u32 x.hi.to) (by simp [go_sem])
        have hs4:=hb4.size
        simp only [World.size_alloc] at hs4
        have hs5:w3.heap.size < w4.heap.size:=by omega
        go_wp2_with fail)
       go_ret
       exact ⟨by rw [hstop.out (by exact hz.out)];rfl,by have:=HK2.out;have:=HK.out;(exact kp)⟩
      ·have hq:=eql_other x.lo x.hi c2
       have hz:Hid (wrongB M 4 (grec (look M.cs id))=false):=Lib.hid (by rw [hz.out];simp [c1,c2])
       have HC2:=Lib.hid c2
       clear c2
       (go_wp2_with fail
        refine (HGx.out _ hkw).mono ?_
        rintro e w3 ⟨rfl,hb3⟩
        go_wp2_with fail
        refine (HGy.out _ (by (exact kp))).mono ?_
        rintro e w4 ⟨rfl,hb4⟩
        have p0:=hb4.cell (a:=⟨w3.heap.size,2,none⟩) (v:=.int .u8 x.bot) (by simp [go_sem])
        have p1:=hb4.cell (a:=⟨w3.heap.size,3,none⟩) (v:=.int .u8 x.lo.tag) (by simp [go_sem])
        have p2:=hb4.cell (a:=⟨w3.heap.size,4,none⟩) (v:=.int .u32 x.lo.to) (by simp [go_sem])
        have p3:=hb4.cell (a:=⟨w3.heap.size,5,none⟩) (v:=.int .u8 x.hi.tag) (by simp [go_sem])
        have p4:=hb4.cell (a:=⟨w3.heap.size,6,none⟩) (v:=.int .u32 x.hi.to) (by simp [go_sem])
        have hs4:=hb4.size
        simp only [World.size_alloc] at hs4
        have hs5:w3.heap.size < w4.heap.size:=by omega
        go_wp2_with fail)
       go_roundg (gk - 1)
       case rel=>exact ⟨d + 1,by omega,by simp,by have:=HK.out;(exact kp),hnext.out (by exact hz.out)⟩
       case measure=>omega
     ·have hz:Hid (wrongB M 4 (grec (look M.cs id))=false):=Lib.hid (by rw [hz.out];simp [c1])
      by_cases c2:x.lo=x.hi
      ·have hq:=eql_same x.lo x.hi c2
       have HC2:=Lib.hid c2
       clear c2
       (go_wp2_with fail
        refine (HGx.out _ hkw).mono ?_
        rintro e w3 ⟨rfl,hb3⟩
        go_wp2_with fail
        refine (HGy.out _ (by (exact kp))).mono ?_
        rintro e w4 ⟨rfl,hb4⟩
        have p0:=hb4.cell (a:=⟨w3.heap.size,2,none⟩) (v:=.int .u8 x.bot) (by simp [go_sem])
        have p1:=hb4.cell (a:=⟨w3.heap.size,3,none⟩) (v:=.int .u8 x.lo.tag) (by simp [go_sem])
        have p2:=hb4.cell (a:=⟨w3.heap.size,4,none⟩) (v:=.int .u32 x.lo.to) (by simp [go_sem])
        have p3:=hb4.cell (a:=⟨w3.heap.size,5,none⟩) (v:=.int .u8 x.hi.tag) (by simp [go_sem])
        have p4:=hb4.cell (a:=⟨w3.heap.size,6,none⟩) (v:=.int .u32 x.hi.to) (by simp [go_sem])
        have hs4:=hb4.size
        simp only [World.size_alloc] at hs4
        have hs5:w3.heap.size < w4.heap.size:=by omega
        go_wp2_with fail)
       go_roundg (gk - 1)
       case rel=>exact ⟨d + 1,by omega,by simp,by have:=HK.out;(exact kp),hnext.out (by exact hz.out)⟩
       case measure=>omega
      ·have hq:=eql_other x.lo x.hi c2
       have HC2:=Lib.hid c2
       clear c2
       (go_wp2_with fail
        refine (HGx.out _ hkw).mono ?_
        rintro e w3 ⟨rfl,hb3⟩
        go_wp2_with fail
        refine (HGy.out _ (by (exact kp))).mono ?_
        rintro e w4 ⟨rfl,hb4⟩
        have p0:=hb4.cell (a:=⟨w3.heap.size,2,none⟩) (v:=.int .u8 x.bot) (by simp [go_sem])
        have p1:=hb4.cell (a:=⟨w3.heap.size,3,none⟩) (v:=.int .u8 x.lo.tag) (by simp [go_sem])
        have p2:=hb4.cell (a:=⟨w3.heap.size,4,none⟩) (v:=.int .u32 x.lo.to) (by simp [go_sem])
        have p3:=hb4.cell (a:=⟨w3.heap.size,5,none⟩) (v:=.int .u8 x.hi.tag) (by simp [go_sem])
        have p4:=hb4.cell (a:=⟨w3.heap.size,6,none⟩) (v:=.int .u32 x.hi.to) (by simp [go_sem])
        have hs4:=hb4.size
        simp only [World.size_alloc] at hs4
        have hs5:w3.heap.size < w4.heap.size:=by omega
        go_wp2_with fail)
       go_roundg (gk - 1)
       case rel=>exact ⟨d + 1,by omega,by simp,by have:=HK.out;(exact kp),hnext.out (by exact hz.out)⟩
       case measure=>omega
   ·go_wp2
    go_ret
    have hd':d=ids.length:=by omega
    refine ⟨by rw [rightL_good HB.out (fun i id hi hi'=>HW.out i id (by rw [← HID.out] at hi;omega) (by rw [HID.out];exact hi'))];rfl,HK2.out.trans HK.out⟩

open Go Go.RowKit

structure Pen (base:Nat) (w:World) (pb:Nat) (c0 c1 c3:Value) (bs:List Int):Prop where
 ex:∃ v,w.heap[pb]?=some (.cells #[c0,c1,v,c3] 165 (0,0)) ∧ BsRow base w v bs
 hi:base ≤ pb

def PF (w:World) (base pb:Nat) (mb:Option Nat) (k:Nat):Prop:=k=pb ∨ some k=mb ∨ (base ≤ k ∧ IsBlk w 5 k)

theorem Upd.pens {w w1 w2:World} {base pb:Nat} {mb:Option Nat} (h:Upd (PF w base pb mb) w w1) (k:Upd (PF w1 base pb mb) w1 w2):Upd (PF w base pb mb) w w2:=
 ⟨k.os.trans h.os,k.tape.trans h.tape,k.output.trans h.output,Nat.le_trans h.size k.size,fun i hi hf=>by
  have h1:=h.block i hi hf
  have hf1:¬ PF w1 base pb mb i:=fun hh=>hf (by
   rcases hh with hh | hh | ⟨hb,cs,hh⟩
   ·exact .inl hh
   ·exact .inr (.inl hh)
   ·exact .inr (.inr ⟨hb,cs,by rw [← h1];exact hh⟩))
  exact (k.block i (Nat.lt_of_lt_of_le hi h.size) hf1).trans h1⟩

theorem Upd.pen_map {w w1:World} {base pb:Nat} (h:Upd (PF w base pb none) w w1) (mb:Option Nat):Upd (PF w base pb mb) w w1:=
 h.mono fun k _ hk=>by
  rcases hk with hk | hk | hk
  ·exact .inl hk
  ·cases hk
  ·exact .inr (.inr hk)

theorem Upd.pen_keeps {w w1:World} {base pb:Nat} {mb:Option Nat} (h:Upd (PF w base pb mb) w w1) (hp:base ≤ pb) (hm:∀ k,mb=some k → base ≤ k) {w0:World} (h0:Keeps w0 w) (hb:w0.heap.size ≤ base):Keeps w0 w1:=
 h0.new h fun k hk=>by
  rcases hk with hk | hk | hk
  ·omega
  ·have:=hm k hk.symm;omega
  ·have:=hk.1;omega

theorem Pen.keeps {base:Nat} {w w':World} {pb:Nat} {c0 c1 c3:Value} {bs:List Int} (h:Pen base w pb c0 c1 c3 bs) (hk:Keeps w w'):Pen base w' pb c0 c1 c3 bs:=by
 obtain ⟨⟨v,h1,h2⟩,h3⟩:=h
 exact ⟨⟨v,hk.heap h1,h2.keeps hk⟩,h3⟩

theorem Pen.cell {base:Nat} {w:World} {pb:Nat} {c0 c1 c3:Value} {bs:List Int} (h:Pen base w pb c0 c1 c3 bs):w.cell? ⟨pb,0,none⟩=some c0 ∧ w.cell? ⟨pb,1,none⟩=some c1 ∧ w.cell? ⟨pb,3,none⟩=some c3:=by
 obtain ⟨⟨v,h1,h2⟩,h3⟩:=h
 exact ⟨by rw [cell_of_row w pb 0 _ _ _ h1];rfl,by rw [cell_of_row w pb 1 _ _ _ h1];rfl,by rw [cell_of_row w pb 3 _ _ _ h1];rfl⟩

theorem Upd.pen_other {w w':World} {base pb:Nat} {mb:Option Nat} (h:Upd (PF w base pb mb) w w') {b o:Nat} {v:Value} {t:TypeId} {q:Nat × Nat} {cs:Array Value} (hb:w.heap[b]?=some (.cells cs t q)) (ht:t ≠ 5) (hp:b ≠ pb) (hm:mb ≠ some b) (hc:w.cell? ⟨b,o,none⟩=some v):w'.cell? ⟨b,o,none⟩=some v:=
 h.cellAt (fun hh=>by
  rcases hh with hh | hh | ⟨_,cs',hh⟩
  ·exact hp hh
  ·exact hm hh.symm
  ·rw [hb] at hh
   cases hh
   exact ht rfl) hc

theorem Pen.grown {base:Nat} {w w1 w2:World} {pb:Nat} {c0 c1 c3 v v':Value} {bs cs:List Int} (hp:w.heap[pb]?=some (.cells #[c0,c1,v,c3] 165 (0,0))) (hb:base ≤ pb) (hr:BsRow base w v bs) (hk:Keeps w w1) (hr2:BsRow base w2 v' (bs ++ cs)) (hg:w1.grownBy w2 v.ownBlock) :
  w2.heap[pb]?=some (.cells #[c0,c1,v,c3] 165 (0,0)) ∧ Pen base (w2.setCell ⟨pb,2,none⟩ v') pb c0 c1 c3 (bs ++ cs) ∧ Upd (PF w base pb none) w (w2.setCell ⟨pb,2,none⟩ v'):=by
 have hne:v.ownBlock ≠ some pb:=hr.other hp (by decide)
 have hp1:=hk.heap hp
 have hp2:w2.heap[pb]?=some (.cells #[c0,c1,v,c3] 165 (0,0)):=(hg.block pb (lt_of_heap hp1) (fun e=>hne e.symm)).trans hp1
 have hne2:v'.ownBlock ≠ some pb:=hr2.other hp2 (by decide)
 refine ⟨hp2,⟨⟨v',heap_setCell_same w2 pb 2 _ _ v' hp2,?_⟩,hb⟩,?_⟩
 ·exact Upd.owns (F:=fun k=>k=pb) (Upd.setCell (F:=fun k=>k=pb) (p:=⟨pb,2,none⟩) (Upd.refl _ w2) (.inl rfl) v') (fun k hk e=>hne2 (by rw [hk,e])) hr2
 ·refine Upd.setCell (Upd.grown (hk.upd _) hg (fun k hk=>.inl (.inr (.inr ?_)))) (.inl (.inl rfl)) v'
  obtain ⟨h1,h2⟩:=hr.blk hk
  exact ⟨h2,h1⟩

set_option maxRecDepth 100000 in
set_option maxHeartbeats 2000000 in
theorem pen_num {base:Nat} {w:World} {pb:Nat} {c0 c1 c3:Value} {bs:List Int} (h:Pen base w pb c0 c1 c3 bs) (n:Nat) (hn:n < 2 ^ 64) (hl:bs.length ≤ 1000000000) :
  Calls Tryz.prog 106 #[.pointer (some ⟨pb,0,none⟩),.int .u64 (n:Int)] w fun e w'=>e=.returned (.tuple #[]) ∧ Pen base w' pb c0 c1 c3 (bs ++ putB n) ∧ Upd (PF w base pb none) w w':=by
 have HPut:=Lib.hid (fun (W:World)=>wirePut_calls n hn W)
 have HL:=Lib.hid (putB_len10 hn)
 obtain ⟨⟨v,h1,h2⟩,h3⟩:=h
 have e2:w.cell? ⟨pb,2,none⟩=some v:=by rw [cell_of_row w pb 2 _ _ _ h1];rfl
 have ef:=frozen_of_row w pb 2 _ _ h1
 have hpw:=lt_of_heap h1
 have H1:=Lib.hid h1
 have H2:=Lib.hid h2
 have HN:=Lib.hid hn
 clear h1 h2 hn
 go_enter Tryz.func106,Tryz.ntmps106
 refine wp_region_any (by kernel_rfl) ?_
 refine wpAny_take (i:=0) (v:=?_) rfl (by kernel_rfl) (by kernel_rfl) (by kernel_rfl) (fun _ _ _ h=>h) (Or.inl ⟨by rfl,?_⟩) ?_
 rotate_left
 ·intro w;go_simp;try with_reducible rfl
 refine wpAny_take (i:=1) (v:=?_) rfl (by kernel_rfl) (by kernel_rfl) (by kernel_rfl) (fun _ _ _ h=>h) (Or.inl ⟨by rfl,?_⟩) ?_
 rotate_left
 ·intro w;go_simp;try with_reducible rfl
 refine wpAny_take (i:=2) (v:=?_) rfl (by kernel_rfl) (by kernel_rfl) (by kernel_rfl) (fun _ _ _ h=>h) (Or.inl ⟨by rfl,?_⟩) ?_
 rotate_left
 ·intro w;go_simp;try with_reducible rfl
 refine wpAny_take (i:=3) (v:=?_) rfl (by kernel_rfl) (by kernel_rfl) (by kernel_rfl) (fun _ _ _ h=>h) (Or.inl ⟨by rfl,?_⟩) ?_
 rotate_left
 ·intro w;go_simp;try with_reducible rfl
 refine wpAny_take (i:=5) (v:=?_) rfl (by kernel_rfl) (by kernel_rfl) (by kernel_rfl) (fun _ _ _ h=>h) (Or.inl ⟨by rfl,?_⟩) ?_
 rotate_left
 ·intro w;go_simp;try with_reducible rfl
 refine wpAny_ready (rs:=[4,6]) (by kernel_rfl) (by decide) (AllReady.cons rfl (fun K hK=>?_) (AllReady.cons rfl (fun K hK=>?_) AllReady.nil))
 ·go_simp
  refine hK _ _ ?_
  clear hK K
  refine wpAny_ready (rs:=[6]) (by kernel_rfl) (by decide) (AllReady.cons rfl (fun K hK=>?_) AllReady.nil)
  go_simp
  refine (HPut.out _).mono ?_
  rintro e w1 ⟨x,rfl,hx,hk⟩
  refine hK _ _ ?_
  clear hK K
  have hk1:Keeps w w1:=((Keeps.refl w).drew).trans hk
  have hpw1:=hk1.size
  refine wpAny_ready (rs:=[7]) (by kernel_rfl) (by decide) (AllReady.cons rfl (fun K hK=>?_) AllReady.nil)
  refine wpB_append_op (.tmp 8) (.tmp 10) rfl base w.drew.heap.size v x bs (putB n) rfl rfl (H2.out.keeps hk1) hx (putB_pos n) (by have:=HL.out;omega) (by omega) ?_
  intro v' w2 hr2 hg
  have HG:=Lib.hid (Pen.grown H1.out h3 H2.out hk1 hr2 hg)
  have f1:w2.cell? ⟨pb,2,none⟩=some v:=by rw [cell_of_row w2 pb 2 _ _ _ HG.out.1];rfl
  have f2:=frozen_of_row w2 pb 2 _ _ HG.out.1
  obtain ⟨va,vcap,hv',-⟩:=hr2.slice
  obtain ⟨L,hL⟩:∃ L,L=(bs ++ putB n).length:=⟨_,rfl⟩
  rw [← hL] at hv'
  subst hv'
  clear hL
  refine hK _ _ ?_
  clear hK K
  refine wpAny_take (i:=8) (v:=?_) rfl (by kernel_rfl) (by kernel_rfl) (by kernel_rfl) (fun _ _ _ h=>h) (Or.inl ⟨by rfl,?_⟩) ?_
  rotate_left
  ·intro w;go_simp;try with_reducible rfl
  refine wpAny_take (i:=9) (v:=?_) rfl (by kernel_rfl) (by kernel_rfl) (by kernel_rfl) (fun _ _ _ h=>h) (Or.inl ⟨by rfl,?_⟩) ?_
  rotate_left
  ·intro w;go_simp;try with_reducible rfl
  refine wpAny_ready (rs:=[10]) (by kernel_rfl) (by decide) (AllReady.cons rfl (fun K hK=>?_) AllReady.nil)
  go_simp
  refine hK _ _ ?_
  clear hK K
  refine wpAny_done (by kernel_rfl) ?_ _
  first | go_end0 | refine bodyPost_ret (results_none rfl _ _ _) rfl ?_
  exact ⟨rfl,HG.out.2.1,HG.out.2.2⟩
 ·go_simp
  refine (HPut.out _).mono ?_
  rintro e w1 ⟨x,rfl,hx,hk⟩
  refine hK _ _ ?_
  clear hK K
  have hk1:Keeps w w1:=((Keeps.refl w).drew).trans hk
  have hpw1:=hk1.size
  refine wpAny_ready (rs:=[4]) (by kernel_rfl) (by decide) (AllReady.cons rfl (fun K hK=>?_) AllReady.nil)
  replace e2:=hk1.cell e2
  go_simp
  refine hK _ _ ?_
  clear hK K
  refine wpAny_ready (rs:=[7]) (by kernel_rfl) (by decide) (AllReady.cons rfl (fun K hK=>?_) AllReady.nil)
  refine wpB_append_op (.tmp 8) (.tmp 10) rfl base w.drew.heap.size v x bs (putB n) rfl rfl (H2.out.keeps hk1) hx (putB_pos n) (by have:=HL.out;omega) (by omega) ?_
  intro v' w2 hr2 hg
  have HG:=Lib.hid (Pen.grown H1.out h3 H2.out hk1 hr2 hg)
  have f1:w2.cell? ⟨pb,2,none⟩=some v:=by rw [cell_of_row w2 pb 2 _ _ _ HG.out.1];rfl
  have f2:=frozen_of_row w2 pb 2 _ _ HG.out.1
  obtain ⟨va,vcap,hv',-⟩:=hr2.slice
  obtain ⟨L,hL⟩:∃ L,L=(bs ++ putB n).length:=⟨_,rfl⟩
  rw [← hL] at hv'
  subst hv'
  clear hL
  refine hK _ _ ?_
  clear hK K
  refine wpAny_take (i:=8) (v:=?_) rfl (by kernel_rfl) (by kernel_rfl) (by kernel_rfl) (fun _ _ _ h=>h) (Or.inl ⟨by rfl,?_⟩) ?_
  rotate_left
  ·intro w;go_simp;try with_reducible rfl
  refine wpAny_take (i:=9) (v:=?_) rfl (by kernel_rfl) (by kernel_rfl) (by kernel_rfl) (fun _ _ _ h=>h) (Or.inl ⟨by rfl,?_⟩) ?_
  rotate_left
  ·intro w;go_simp;try with_reducible rfl
  refine wpAny_ready (rs:=[10]) (by kernel_rfl) (by decide) (AllReady.cons rfl (fun K hK=>?_) AllReady.nil)
  go_simp
  refine hK _ _ ?_
  clear hK K
  refine wpAny_done (by kernel_rfl) ?_ _
  first | go_end0 | refine bodyPost_ret (results_none rfl _ _ _) rfl ?_
  exact ⟨rfl,HG.out.2.1,HG.out.2.2⟩

end Go.Proofs.YtfpjogpjocedaaaGreat
