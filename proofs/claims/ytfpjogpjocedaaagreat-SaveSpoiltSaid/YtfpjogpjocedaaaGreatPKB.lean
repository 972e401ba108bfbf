/-
  The walk of cbdd.Right (printed by wip/mk_right.py).
-/
import Derived.Test.YtfpjogpjocedaaaGreatPSaveW
import Derived.Test.YtfpjogpjocedaaaGreatPTextE
namespace Go.Proofs.YtfpjogpjocedaaaGreat
set_option linter.unusedSimpArgs false
set_option linter.unusedVariables false
set_option maxHeartbeats 600000
open Go.RowKit

set_option maxRecDepth 100000 in
set_option maxHeartbeats 2000000 in
theorem cbdd_right {F:Nat → Prop} {w:World} {sb:Nat} {M:St} (h:StoreRep F w sb M) (v:Edge) (l:Int) (hv:v.ok) :
  Calls Tryz.prog 101 #[.pointer (some ⟨sb,0,none⟩),.agg #[.int .u8 v.tag,.int .u32 v.to],.int .i64 l] w fun r w'=>r=.returned (.bool (rightL M 3 v l)) ∧ Keeps w w':=by
 have hwf:=Lib.hid h.wf
 have HRK:=Lib.hid (fun (id:Int) (r:Rec) (hl:look M.cs id=some r)=>h.fit hl)
 have hn16:=h.wf.n16
 have hfew:=h.few
 have hlenr:=reachL_few h.wf h.few [v.to]
 have HG:=Lib.hid (fun (W:World) (hW:Keeps w W) (id:Int) (hid:id ≤ 4294967295)=>store_get (h.keeps hW) id hid)
 have hleads:=fun (W:World) (hW:Keeps w W)=>store_leads (h.keeps hW) 3 v l hv
 have HRE:=Lib.hid (fun (W:World) (hW:Keeps w W) (b:Nat) (cap:Nat) (hE:IsEdges W (some ⟨b,0,none⟩) 1 [v])=>reach_calls (h.keeps hW) (some ⟨b,0,none⟩) 1 cap [v] hE (by omega))
 clear h
 rcases bool_cases (M.leads 3 v l) with hb | hb
 ·rw [hb] at hleads
  have HL:=Lib.hid hleads
  have HF:=Lib.hid (rightL_no hb)
  clear hleads hb
  go_enter Tryz.func101,Tryz.ntmps101
  go_wp2_with (first | (go_at_call 75;refine (HL.out _ (by (exact kp))).mono ?_;rintro e w1 ⟨rfl,hk⟩) | fail)
  go_ret
  exact ⟨by rw [HF.out];rfl,by (exact kp)⟩
 ·rw [hb] at hleads
  have HL:=Lib.hid hleads
  have HB:=Lib.hid hb
  clear hleads hb
  go_enter Tryz.func101,Tryz.ntmps101
  go_wp2_with (first | (go_at_call 75;refine (HL.out _ (by (exact kp))).mono ?_;rintro e w1 ⟨rfl,hk⟩;have z0:w1.cell? ⟨w.heap.size,0,none⟩=some (.int .u8 v.tag):=hk.cell (by simp);have z1:w1.cell? ⟨w.heap.size,1,none⟩=some (.int .u32 v.to):=hk.cell (by simp);have hk1:Keeps w w1:=(by (exact kp))) | fail)
  refine (HRE.out _ (by (exact kp)) _ _ (isEdges_one hv (by simp [go_sem]) (by simp [go_sem]))).mono ?_
  rintro e w2 ⟨vv,rfl,hrow,hk2⟩
  obtain ⟨ids,hids⟩:∃ ids,ids=reachL M.cs [v.to]:=⟨_,rfl⟩
  have hrow:IdRow w2 vv ids:=by rw [hids];exact hrow
  rw [← hids] at hlenr
  obtain ⟨a,cap,rfl,hc⟩:=hrow
  have HID:=Lib.hid hids
  have HC:=Lib.hid hc
  have HK2:=Lib.hid (show Keeps w w2 by (exact kp))
  clear hids hc hk2 hk hk1 z0 z1 hv
  go_wp2_with fail
  go_loopg [23] ids.length (fun gk s23 wr=>∃ d:Nat,d + gk=ids.length ∧ s23=.int .i64 (d:Int) ∧ Keeps w2 wr ∧ ∀ (i:Nat) (id:Int),i < d → ids[i]?=some id → wrongB M 3 (grec (look M.cs id))=false)
  case atStart=>exact ⟨0,by omega,rfl,Keeps.refl _,fun i id hi=>absurd hi (by omega)⟩
  case round=>
   obtain ⟨d,hd,rfl,hk,hw⟩:=hrel
   have HK:=Lib.hid hk
   have HW:=Lib.hid hw
   clear hk hw
   by_cases hlt:d < ids.length
   ·obtain ⟨id,hid⟩:∃ id,ids[d]?=some id:=⟨_,List.getElem?_eq_getElem hlt⟩
    obtain ⟨g,rfl,hcell⟩:=HC.out d id hid
    have cd:=HK.out.cell hcell
    have HI:=Lib.hid hid
    obtain ⟨x,hx,gx,i2,i3⟩:=reach_rec hwf.out (d:=d) (id:=id) (es:=[v.to]) (by rw [← HID.out];exact hid)
    have t1:=gx.tb
    have t2:=gx.bn
    have hokx:=HRK.out id x hx
    have tok:0 ≤ x.top:=hokx.top.1
    have tok2:0 ≤ x.bot:=hokx.bot.1
    have tlo:=hokx.lo.2.2
    have HX:=Lib.hid hx
    have hkw:Keeps w wr:=HK2.out.trans HK.out
    have hnext:Hid (wrongB M 3 (grec (look M.cs id))=false → ∀ (i:Nat) (id':Int),i < d + 1 → ids[i]?=some id' → wrongB M 3 (grec (look M.cs id'))=false):=Lib.hid (fun hf i id' hi hi'=>by
     by_cases hid:i < d
     ·exact HW.out i id' hid hi'
     ·obtain rfl:i=d:=by omega
      rw [HI.out] at hi'
      cases hi'
      exact hf)
    have hstop:Hid (wrongB M 3 (grec (look M.cs id))=true → rightL M 3 v l=false):=Lib.hid (fun hf=>rightL_bad (d:=d) (id:=id) (by rw [← HID.out];exact HI.out) hf)
    clear hid hcell hokx
    have HGx:Hid (∀ W,Keeps w W → Calls Tryz.prog 46 #[.pointer (some ⟨sb,0,none⟩),.int .u32 id] W fun e w'=>e=.returned (.tuple #[.agg #[.int .u8 x.form,.int .u8 x.top,.int .u8 x.bot,.int .u8 x.lo.tag,.int .u32 x.lo.to,.int .u8 x.hi.tag,.int .u32 x.hi.to],.bool true]) ∧ Keeps W w'):=
     Lib.hid (fun W hW=>by have:=HG.out W hW id (by omega);rw [hx] at this;exact this)
    have hwn:Hid (look M.cs x.lo.to=none → wrongB M 3 (grec (look M.cs id))=false):=Lib.hid (fun hy=>by rw [hx];show (match look M.cs x.lo.to with | none=>false | some z=>_)=false;rw [hy])
    have hwy:Hid (∀ y,look M.cs x.lo.to=some y → wrongB M 3 (grec (look M.cs id))=(decide (y.top=x.bot + 1) && decide (y.hi=x.hi))):=Lib.hid (fun y hy=>by rw [hx];show (match look M.cs x.lo.to with | none=>false | some z=>_)=_;rw [hy];rfl)
    clear gx
    cases hy:look M.cs x.lo.to with
    | none=>
     have HGy:Hid (∀ W,Keeps w W → Calls Tryz.prog 46 #[.pointer (some ⟨sb,0,none⟩),.int .u32 x.lo.to] W fun e w'=>e=.returned (.tuple #[.agg #[.int .u8 Rec.zero.form,.int .u8 Rec.zero.top,.int .u8 Rec.zero.bot,.int .u8 Rec.zero.lo.tag,.int .u32 Rec.zero.lo.to,.int .u8 Rec.zero.hi.tag,.int .u32 Rec.zero.hi.to],.bool false]) ∧ Keeps W w'):=
      Lib.hid (fun W hW=>by have:=HG.out W hW x.lo.to tlo;rw [hy] at this;exact this)
     have hz:=Lib.hid (hwn.out hy)
     clear hx hy
     (go_wp2_with fail
      refine (HGx.out _ hkw).mono ?_
      rintro e w3 ⟨rfl,hb3⟩
      go_wp2_with fail
      refine (HGy.out _ (by (exact kp))).mono ?_
      rintro e w4 ⟨rfl,hb4⟩
      have p0:=hb4.cell (a:=⟨w3.heap.size,2,none⟩) (v:=.int .u8 x.bot) (by simp [go_sem])
      have p1:=hb4.cell (a:=⟨w3.heap.size,3,none⟩) (v:=.int .u8 x.lo.tag) (by simp [go_sem])
      have p2:=hb4.cell (a:=⟨w3.heap.size,4,none⟩) (v:=.int .u32 x.lo.to) (by simp [go_sem])
      have p3:=hb4.cell (a:=⟨w3.heap.size,5,none⟩) (v:=.int .u8 x.hi.tag) (by simp [go_sem])
      have p4:=hb4.cell (a:=⟨w3.heap.size,6,none⟩) (v:=.int .u32 x.hi.to) (by simp [go_sem])
      have hs4:=hb4.size
      simp only [World.size_alloc] at hs4
      have hs5:w3.heap.size < w4.heap.size:=by omega
      go_wp2_with fail)
     go_roundg (gk - 1)
     case rel=>exact ⟨d + 1,by omega,by simp,by have:=HK.out;(exact kp),hnext.out (by exact hz.out)⟩
     case measure=>omega
    | some y=>
     have HGy:Hid (∀ W,Keeps w W → Calls Tryz.prog 46 #[.pointer (some ⟨sb,0,none⟩),.int .u32 x.lo.to] W fun e w'=>e=.returned (.tuple #[.agg #[.int .u8 y.form,.int .u8 y.top,.int .u8 y.bot,.int .u8 y.lo.tag,.int .u32 y.lo.to,.int .u8 y.hi.tag,.int .u32 y.hi.to],.bool true]) ∧ Keeps W w'):=
      Lib.hid (fun W hW=>by have:=HG.out W hW x.lo.to tlo;rw [hy] at this;exact this)
     have hz:=Lib.hid (hwy.out y hy)
     clear hx hy
     by_cases c1:y.top=x.bot + 1
     ·by_cases c2:y.hi=x.hi
      ·have hq:=eql_same y.hi x.hi c2
       have hz:Hid (wrongB M 3 (grec (look M.cs id))=true):=Lib.hid (by rw [hz.out];simp [c1,c2])
       have HC2:=Lib.hid c2
       clear c2
       (go_wp2_with fail
        refine (HGx.out _ hkw).mono ?_
        rintro e w3 ⟨rfl,hb3⟩
        go_wp2_with fail
        refine (HGy.out _ (by (exact kp))).mono ?_
        rintro e w4 ⟨rfl,hb4⟩
        have p0:=hb4.cell (a:=⟨w3.heap.size,2,none⟩) (v:=.int .u8 x.bot) (by simp [go_sem])
        have p1:=hb4.cell (a:=⟨w3.heap.size,3,none⟩) (v:=.int .u8 x.lo.tag) (by simp [go_sem])
        have p2:=hb4.cell (a:=⟨w3.heap.size,4,none⟩) (v:=.int .u32 x.lo.to) (by simp [go_sem])
        have p3:=hb4.cell (a:=⟨w3.heap.size,5,none⟩) (v:=.int .u8 x.hi.tag) (by simp [go_sem])
        have p4:=hb4.cell (a:=⟨w3.heap.size,6,none⟩) (v:=.int .u32 x.hi.to) (by simp [go_sem])
        have hs4:=hb4.size
        simp only [World.size_alloc] at hs4
        have hs5:w3.heap.size < w4.heap.size:=by omega
        go_wp2_with fail)
       go_ret
       exact ⟨by rw [hstop.out (by exact hz.out)];rfl,by have:=HK2.out;have:=HK.out;(exact kp)⟩
      ·have hq:=eql_other y.hi x.hi c2
       have hz:Hid (wrongB M 3 (grec (look M.cs id))=false):=Lib.hid (by rw [hz.out];simp [c1,c2])
       have HC2:=Lib.hid c2
       clear c2
       (go_wp2_with fail
        refine (HGx.out _ hkw).mono ?_
        rintro e w3 ⟨rfl,hb3⟩
        go_wp2_with fail
        refine (HGy.out _ (by (exact kp))).mono ?_
        rintro e w4 ⟨rfl,hb4⟩
        have p0:=hb4.cell (a:=⟨w3.heap.size,2,none⟩) (v:=.int .u8 x.bot) (by simp [go_sem])
        have p1:=hb4.cell (a:=⟨w3.heap.size,3,none⟩) (v:=.int .u8 x.lo.tag) (by simp [go_sem])
        have p2:=hb4.cell (a:=⟨w3.heap.size,4,none⟩) (v:=.int .u32 x.lo.to) (by simp [go_sem])
        have p3:=hb4.cell (a:=⟨w3.heap.size,5,none⟩) (v:=.int .u8 x.hi.tag) (by simp [go_sem])
        have p4:=hb4.cell (a:=⟨w3.heap.size,6,none⟩) (v:=.int .u32 x.hi.to) (by simp [go_sem])
        have hs4:=hb4.size
        simp only [World.size_alloc] at hs4
        have hs5:w3.heap.size < w4.heap.size:=by omega
        go_wp2_with fail)
       go_roundg (gk - 1)
       case rel=>exact ⟨d + 1,by omega,by simp,by have:=HK.out;(exact kp),hnext.out (by exact hz.out)⟩
       case measure=>omega
     ·have hz:Hid (wrongB M 3 (grec (look M.cs id))=false):=Lib.hid (by rw [hz.out];simp [c1])
      (go_wp2_with fail
       refine (HGx.out _ hkw).mono ?_
       rintro e w3 ⟨rfl,hb3⟩
       go_wp2_with fail
       refine (HGy.out _ (by (exact kp))).mono ?_
       rintro e w4 ⟨rfl,hb4⟩
       have p0:=hb4.cell (a:=⟨w3.heap.size,2,none⟩) (v:=.int .u8 x.bot) (by simp [go_sem])
       have p1:=hb4.cell (a:=⟨w3.heap.size,3,none⟩) (v:=.int .u8 x.lo.tag) (by simp [go_sem])
       have p2:=hb4.cell (a:=⟨w3.heap.size,4,none⟩) (v:=.int .u32 x.lo.to) (by simp [go_sem])
       have p3:=hb4.cell (a:=⟨w3.heap.size,5,none⟩) (v:=.int .u8 x.hi.tag) (by simp [go_sem])
       have p4:=hb4.cell (a:=⟨w3.heap.size,6,none⟩) (v:=.int .u32 x.hi.to) (by simp [go_sem])
       have hs4:=hb4.size
       simp only [World.size_alloc] at hs4
       have hs5:w3.heap.size < w4.heap.size:=by omega
       go_wp2_with fail)
      go_roundg (gk - 1)
      case rel=>exact ⟨d + 1,by omega,by simp,by have:=HK.out;(exact kp),hnext.out (by exact hz.out)⟩
      case measure=>omega
   ·go_wp2
    go_ret
    have hd':d=ids.length:=by omega
    refine ⟨by rw [rightL_good HB.out (fun i id hi hi'=>HW.out i id (by rw [← HID.out] at hi;omega) (by rw [HID.out];exact hi'))];rfl,HK2.out.trans HK.out⟩

noncomputable def kRight (M:St) (f:Int) (e:Edge) (l:Int):Bool:=
 if f=1 then M.leads 1 e l else if f=2 then M.leads 2 e l else if f=3 then rightL M 3 e l else if f=4 then rightL M 4 e l else if f=5 then rightL M 5 e l else false

set_option maxRecDepth 100000 in
theorem bdd_right {F:Nat → Prop} {w:World} {sb:Nat} {M:St} (h:StoreRep F w sb M) (v:Edge) (l:Int) (hv:v.ok) :
  Calls Tryz.prog 99 #[.pointer (some ⟨sb,0,none⟩),.agg #[.int .u8 v.tag,.int .u32 v.to],.int .i64 l] w fun r w'=>r=.returned (.bool (M.leads 1 v l)) ∧ Keeps w w':=by
 have HL:=Lib.hid (fun (W:World) (hW:Keeps w W)=>store_leads (h.keeps hW) 1 v l hv)
 clear h
 obtain ⟨b,hb⟩:∃ b,b=M.leads 1 v l:=⟨_,rfl⟩
 rw [← hb] at HL ⊢
 clear hb
 go_enter Tryz.func99,Tryz.ntmps99
 go_wp2_with fail
 refine (HL.out _ (by (exact kp))).mono ?_
 rintro e w1 ⟨rfl,hk⟩
 go_wp2_with fail
 go_ret
 exact ⟨rfl,by (exact kp)⟩

set_option maxRecDepth 100000 in
theorem zdd_right {F:Nat → Prop} {w:World} {sb:Nat} {M:St} (h:StoreRep F w sb M) (v:Edge) (l:Int) (hv:v.ok) :
  Calls Tryz.prog 100 #[.pointer (some ⟨sb,0,none⟩),.agg #[.int .u8 v.tag,.int .u32 v.to],.int .i64 l] w fun r w'=>r=.returned (.bool (M.leads 2 v l)) ∧ Keeps w w':=by
 have HL:=Lib.hid (fun (W:World) (hW:Keeps w W)=>store_leads (h.keeps hW) 2 v l hv)
 clear h
 obtain ⟨b,hb⟩:∃ b,b=M.leads 2 v l:=⟨_,rfl⟩
 rw [← hb] at HL ⊢
 clear hb
 go_enter Tryz.func100,Tryz.ntmps100
 go_wp2_with fail
 refine (HL.out _ (by (exact kp))).mono ?_
 rintro e w1 ⟨rfl,hk⟩
 go_wp2_with fail
 go_ret
 exact ⟨rfl,by (exact kp)⟩

set_option maxRecDepth 100000 in
theorem kright_b (sb:Nat) (l:Int) (b:Bool) (v:Edge) (w:World)
  (hf:∀ W,Keeps w W → Calls Tryz.prog 99 #[.pointer (some ⟨sb,0,none⟩),.agg #[.int .u8 v.tag,.int .u32 v.to],.int .i64 l] W fun e w'=>e=.returned (.bool b) ∧ Keeps W w') :
  Calls Tryz.prog 62 #[.pointer (some ⟨sb,0,none⟩),.int .u8 1,.agg #[.int .u8 v.tag,.int .u32 v.to],.int .i64 l] w fun e w'=>e=.returned (.bool b) ∧ Keeps w w':=by
 have HF:=Lib.hid hf
 clear hf
 go_enter Tryz.func62,Tryz.ntmps62
 go_wp2_with fail
 refine (HF.out _ (by (exact kp))).mono ?_
 rintro e w1 ⟨rfl,hk⟩
 go_wp2_with fail
 go_ret
 exact ⟨rfl,by (exact kp)⟩

set_option maxRecDepth 100000 in
theorem kright_z (sb:Nat) (l:Int) (b:Bool) (v:Edge) (w:World)
  (hf:∀ W,Keeps w W → Calls Tryz.prog 100 #[.pointer (some ⟨sb,0,none⟩),.agg #[.int .u8 v.tag,.int .u32 v.to],.int .i64 l] W fun e w'=>e=.returned (.bool b) ∧ Keeps W w') :
  Calls Tryz.prog 62 #[.pointer (some ⟨sb,0,none⟩),.int .u8 2,.agg #[.int .u8 v.tag,.int .u32 v.to],.int .i64 l] w fun e w'=>e=.returned (.bool b) ∧ Keeps w w':=by
 have HF:=Lib.hid hf
 clear hf
 go_enter Tryz.func62,Tryz.ntmps62
 go_wp2_with fail
 refine (HF.out _ (by (exact kp))).mono ?_
 rintro e w1 ⟨rfl,hk⟩
 go_wp2_with fail
 go_ret
 exact ⟨rfl,by (exact kp)⟩

set_option maxRecDepth 100000 in
theorem kright_c (sb:Nat) (l:Int) (b:Bool) (v:Edge) (w:World)
  (hf:∀ W,Keeps w W → Calls Tryz.prog 101 #[.pointer (some ⟨sb,0,none⟩),.agg #[.int .u8 v.tag,.int .u32 v.to],.int .i64 l] W fun e w'=>e=.returned (.bool b) ∧ Keeps W w') :
  Calls Tryz.prog 62 #[.pointer (some ⟨sb,0,none⟩),.int .u8 3,.agg #[.int .u8 v.tag,.int .u32 v.to],.int .i64 l] w fun e w'=>e=.returned (.bool b) ∧ Keeps w w':=by
 have HF:=Lib.hid hf
 clear hf
 go_enter Tryz.func62,Tryz.ntmps62
 go_wp2_with fail
 refine (HF.out _ (by (exact kp))).mono ?_
 rintro e w1 ⟨rfl,hk⟩
 go_wp2_with fail
 go_ret
 exact ⟨rfl,by (exact kp)⟩

set_option maxRecDepth 100000 in
theorem kright_q (sb:Nat) (l:Int) (b:Bool) (v:Edge) (w:World)
  (hf:∀ W,Keeps w W → Calls Tryz.prog 102 #[.pointer (some ⟨sb,0,none⟩),.agg #[.int .u8 v.tag,.int .u32 v.to],.int .i64 l] W fun e w'=>e=.returned (.bool b) ∧ Keeps W w') :
  Calls Tryz.prog 62 #[.pointer (some ⟨sb,0,none⟩),.int .u8 4,.agg #[.int .u8 v.tag,.int .u32 v.to],.int .i64 l] w fun e w'=>e=.returned (.bool b) ∧ Keeps w w':=by
 have HF:=Lib.hid hf
 clear hf
 go_enter Tryz.func62,Tryz.ntmps62
 go_wp2_with fail
 refine (HF.out _ (by (exact kp))).mono ?_
 rintro e w1 ⟨rfl,hk⟩
 go_wp2_with fail
 go_ret
 exact ⟨rfl,by (exact kp)⟩

set_option maxRecDepth 100000 in
theorem kright_t (sb:Nat) (l:Int) (b:Bool) (v:Edge) (w:World)
  (hf:∀ W,Keeps w W → Calls Tryz.prog 103 #[.pointer (some ⟨sb,0,none⟩),.agg #[.int .u8 v.tag,.int .u32 v.to],.int .i64 l] W fun e w'=>e=.returned (.bool b) ∧ Keeps W w') :
  Calls Tryz.prog 62 #[.pointer (some ⟨sb,0,none⟩),.int .u8 5,.agg #[.int .u8 v.tag,.int .u32 v.to],.int .i64 l] w fun e w'=>e=.returned (.bool b) ∧ Keeps w w':=by
 have HF:=Lib.hid hf
 clear hf
 go_enter Tryz.func62,Tryz.ntmps62
 go_wp2_with fail
 refine (HF.out _ (by (exact kp))).mono ?_
 rintro e w1 ⟨rfl,hk⟩
 go_wp2_with fail
 go_ret
 exact ⟨rfl,by (exact kp)⟩

set_option maxRecDepth 100000 in
theorem kright_no (sb:Nat) (f l:Int) (v:Edge) (w:World) (h1:f ≠ 1) (h2:f ≠ 2) (h3:f ≠ 3) (h4:f ≠ 4) (h5:f ≠ 5) :
  Calls Tryz.prog 62 #[.pointer (some ⟨sb,0,none⟩),.int .u8 f,.agg #[.int .u8 v.tag,.int .u32 v.to],.int .i64 l] w fun e w'=>e=.returned (.bool false) ∧ Keeps w w':=by
 have g1:(f == 1)=false:=by simp [h1]
 have g2:(f == 2)=false:=by simp [h2]
 have g3:(f == 3)=false:=by simp [h3]
 have g4:(f == 4)=false:=by simp [h4]
 have g5:(f == 5)=false:=by simp [h5]
 clear h1 h2 h3 h4 h5
 go_enter Tryz.func62,Tryz.ntmps62
 go_wp2
 go_ret
 exact ⟨rfl,by (exact kp)⟩

theorem canon_right {F:Nat → Prop} {w:World} {sb:Nat} {M:St} (h:StoreRep F w sb M) (f:Int) (e:Edge) (l:Int) (he:e.ok) :
  Calls Tryz.prog 62 #[.pointer (some ⟨sb,0,none⟩),.int .u8 f,.agg #[.int .u8 e.tag,.int .u32 e.to],.int .i64 l] w fun r w'=>r=.returned (.bool (kRight M f e l)) ∧ Keeps w w':=by
 by_cases f1:f=1
 ·subst f1
  exact kright_b sb l _ e w (fun W hW=>bdd_right (h.keeps hW) e l he)
 by_cases f2:f=2
 ·subst f2
  exact kright_z sb l _ e w (fun W hW=>zdd_right (h.keeps hW) e l he)
 by_cases f3:f=3
 ·subst f3
  exact kright_c sb l _ e w (fun W hW=>cbdd_right (h.keeps hW) e l he)
 by_cases f4:f=4
 ·subst f4
  exact kright_q sb l _ e w (fun W hW=>czdd_right (h.keeps hW) e l he)
 by_cases f5:f=5
 ·subst f5
  exact kright_t sb l _ e w (fun W hW=>tbdd_right (h.keeps hW) e l he)
 have e1:kRight M f e l=false:=by unfold kRight;rw [if_neg f1,if_neg f2,if_neg f3,if_neg f4,if_neg f5]
 rw [e1]
 exact kright_no sb f l e w f1 f2 f3 f4 f5

end Go.Proofs.YtfpjogpjocedaaaGreat
