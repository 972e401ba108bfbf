/-
  Texts: the digits, the tags; the same tables; no 1 in a table.
-/
import Derived.Test.YtpgcbmbnognieaaGreatPRightA
import Derived.Laws.BytesArg
import Derived.Maps.AppendAt
namespace Go.Proofs.YtpgcbmbnognieaaGreat
set_option maxRecDepth 1000000
set_option maxHeartbeats 8000000
set_option linter.unusedSimpArgs false
set_option linter.unusedVariables false
open Go.RowKit

def digS (k:Int):ByteArray:=strOfNums [48+k]

def noneL:List Bool→Bool
 | []=>true
 | b::t=>!b&&noneL t

def sameL:List Bool→List Bool→Bool
 | [],[]=>true
 | a::s,b::t=>decide (a=b)&&sameL s t
 | _,_=>false

theorem sameL_iff:∀ {s t:List Bool},sameL s t=true↔s=t
 | [],[]=>by simp [sameL]
 | a::s,b::t=>by simp [sameL,sameL_iff]
 | [],b::t=>by simp [sameL]
 | a::s,[]=>by simp [sameL]

def unfS (f:Int)(M:St):Nat→Edge→ByteArray
 | 0,_=>⟨#[63]⟩
 | n+1,e=>
  if f=5 then
   if e.to=0 then⟨#[48]⟩ else if e.to=1 then digS e.tag++⟨#[64]⟩++⟨#[49]⟩
   else digS e.tag++⟨#[64]⟩++⟨#[40]⟩++digS (grec (look M.cs e.to)).top++⟨#[32]⟩++unfS f M n (grec (look M.cs e.to)).lo++⟨#[32]⟩++unfS f M n (grec (look M.cs e.to)).hi++⟨#[41]⟩
  else if e.to<2 then digS e.to
  else if f=3∨f=4 then⟨#[40]⟩++digS (grec (look M.cs e.to)).top++⟨#[58]⟩++digS (grec (look M.cs e.to)).bot++⟨#[32]⟩++unfS f M n (grec (look M.cs e.to)).lo++⟨#[32]⟩++unfS f M n (grec (look M.cs e.to)).hi++⟨#[41]⟩
  else⟨#[40]⟩++digS (grec (look M.cs e.to)).top++⟨#[32]⟩++unfS f M n (grec (look M.cs e.to)).lo++⟨#[32]⟩++unfS f M n (grec (look M.cs e.to)).hi++⟨#[41]⟩

theorem tbdd_right {F:Nat→Prop}{w:World}{sb:Nat}{M:St}(h:StoreRep F w sb M)(v:Edge)(l:Int)(hv:v.ok) :
  Calls Tryz.prog 186 #[.pointer (some ⟨sb,0,none⟩),.agg #[.int .u8 v.tag,.int .u32 v.to],.int .i64 l] w fun r w'=>r=.returned (.bool (rightL M 5 v l))∧Keeps w w':=by
 have hwf:=Lib.hid h.wf
 have HRK:=Lib.hid (fun(id:Int) (r:Rec) (hl:look M.cs id=some r)=>h.fit hl)
 have hn16:=h.wf.n16
 have hfew:=h.few
 have hlenr:=reachL_few h.wf h.few [v.to]
 have HG:=Lib.hid (fun(W:World) (hW:Keeps w W) (id:Int) (hid:id≤4294967295)=>store_get (h.keeps hW) id hid)
 have hleads:=fun(W:World) (hW:Keeps w W)=>store_leads (h.keeps hW) 5 v l hv
 have HRE:=Lib.hid (fun(W:World) (hW:Keeps w W) (b:Nat) (cap:Nat) (hE:IsEdges W (some ⟨b,0,none⟩) 1 [v])=>reach_calls (h.keeps hW) (some ⟨b,0,none⟩) 1 cap [v] hE (by omega))
 clear h
 rcases bool_cases (M.leads 5 v l) with hb|hb
 ·rw [hb] at hleads
  have HL:=Lib.hid hleads
  have HF:=Lib.hid (rightL_no hb)
  clear hleads hb
  go_enter Tryz.func186,Tryz.ntmps186
  go_wp2_with (first|(go_at_call 130;refine(HL.out _ (by(exact kp))).mono ?_;rintro e w1 ⟨rfl,hk⟩)|fail)
  go_ret
  exact⟨by rw [HF.out];rfl,by(exact kp)⟩
 ·rw [hb] at hleads
  have HL:=Lib.hid hleads
  have HB:=Lib.hid hb
  clear hleads hb
  go_enter Tryz.func186,Tryz.ntmps186
  go_wp2_with (first|(go_at_call 130;refine(HL.out _ (by(exact kp))).mono ?_;rintro e w1 ⟨rfl,hk⟩;have z0:w1.cell? ⟨w.heap.size,0,none⟩=some (.int .u8 v.tag):=hk.cell (by simp);have z1:w1.cell? ⟨w.heap.size,1,none⟩=some (.int .u32 v.to):=hk.cell (by simp);have hk1:Keeps w w1:=(by(exact kp)))|fail)
  refine(HRE.out _ (by(exact kp)) _ _ (isEdges_one hv (by simp [go_sem]) (by simp [go_sem]))).mono ?_
  rintro e w2 ⟨vv,rfl,hrow,hk2⟩
  obtain⟨ids,hids⟩:∃ ids,ids=reachL M.cs [v.to]:=⟨_,rfl⟩
  have hrow:IdRow w2 vv ids:=by rw [hids];exact hrow
  rw [← hids] at hlenr
  obtain⟨a,cap,rfl,hc⟩:=hrow
  have HID:=Lib.hid hids
  have HC:=Lib.hid hc
  have HK2:=Lib.hid (show Keeps w w2 by(exact kp))
  clear hids hc hk2 hk hk1 z0 z1 hv
  go_wp2_with fail
  go_loopg [21] ids.length (fun gk s21 wr=>∃ d:Nat,d+gk=ids.length∧s21=.int .i64 (d:Int)∧Keeps w2 wr∧∀ (i:Nat) (id:Int),i<d→ids[i]?=some id→wrongB M 5 (grec (look M.cs id))=false)
  case atStart=>exact⟨0,by omega,rfl,Keeps.refl _,fun i id hi=>absurd hi (by omega)⟩
  case round=>
   obtain⟨d,hd,rfl,hk,hw⟩:=hrel
   have HK:=Lib.hid hk
   have HW:=Lib.hid hw
   clear hk hw
   by_cases hlt:d<ids.length
   ·obtain⟨id,hid⟩:∃ id,ids[d]?=some id:=⟨_,List.getElem?_eq_getElem hlt⟩
    obtain⟨g,rfl,hcell⟩:=HC.out d id hid
    have cd:=HK.out.cell hcell
    have HI:=Lib.hid hid
    obtain⟨x,hx,gx,i2,i3⟩:=reach_rec hwf.out (d:=d) (id:=id) (es:=[v.to]) (by rw [← HID.out];exact hid)
    have t1:=gx.tb
    have t2:=gx.bn
    have hokx:=HRK.out id x hx
    have tok:0≤x.top:=hokx.top.1
    have tok2:0≤x.bot:=hokx.bot.1
    have tlo:=hokx.lo.2.2
    have HX:=Lib.hid hx
    have hkw:Keeps w wr:=HK2.out.trans HK.out
    have hnext:Hid (wrongB M 5 (grec (look M.cs id))=false→∀ (i:Nat) (id':Int),i<d+1→ids[i]?=some id'→wrongB M 5 (grec (look M.cs id'))=false):=Lib.hid (fun hf i id' hi hi'=>by
     by_cases hid:i<d
     ·exact HW.out i id' hid hi'
     ·obtain rfl:i=d:=by omega
      rw [HI.out] at hi'
      cases hi'
      exact hf)
    have hstop:Hid (wrongB M 5 (grec (look M.cs id))=true→rightL M 5 v l=false):=Lib.hid (fun hf=>rightL_bad (d:=d) (id:=id) (by rw [← HID.out];exact HI.out) hf)
    clear hid hcell hokx
    have HGx:Hid (∀ W,Keeps w W→Calls Tryz.prog 80 #[.pointer (some ⟨sb,0,none⟩),.int .u32 id] W fun e w'=>e=.returned (.tuple #[.agg #[.int .u8 x.form,.int .u8 x.top,.int .u8 x.bot,.int .u8 x.lo.tag,.int .u32 x.lo.to,.int .u8 x.hi.tag,.int .u32 x.hi.to],.bool true])∧Keeps W w'):=
     Lib.hid (fun W hW=>by have:=HG.out W hW id (by omega);rw [hx] at this;exact this)
    have hwx:wrongB M 5 (grec (look M.cs id))=(decide (x.hi.to=0)&&decide (x.lo.tag=x.top+1)):=by rw [hx];rfl
    have HWx:=Lib.hid hwx
    clear hwx
    clear hx hkw gx
    by_cases c1:x.hi.to=0
    ·by_cases c2:x.lo.tag=x.top+1
     ·go_wp2_with (first|(go_at_call 80;refine(HGx.out _ (HK2.out.trans HK.out)).mono ?_;rintro e w3 ⟨rfl,hb3⟩)|fail)
      go_ret
      exact⟨by rw [hstop.out (by rw [HWx.out];simp [c1,c2])];rfl,by have:=HK2.out;have:=HK.out;(exact kp)⟩
     ·go_wp2_with (first|(go_at_call 80;refine(HGx.out _ (HK2.out.trans HK.out)).mono ?_;rintro e w3 ⟨rfl,hb3⟩)|fail)
      go_roundg (gk-1)
      case rel=>exact⟨d+1,by omega,by simp,by have:=HK.out;(exact kp),hnext.out (by rw [HWx.out];simp [c1,c2])⟩
      case measure=>omega
    ·go_wp2_with (first|(go_at_call 80;refine(HGx.out _ (HK2.out.trans HK.out)).mono ?_;rintro e w3 ⟨rfl,hb3⟩)|fail)
     go_roundg (gk-1)
     case rel=>exact⟨d+1,by omega,by simp,by have:=HK.out;(exact kp),hnext.out (by rw [HWx.out];simp [c1])⟩
     case measure=>omega
   ·go_wp2
    go_ret
    have hd':d=ids.length:=by omega
    refine⟨by rw [rightL_good HB.out (fun i id hi hi'=>HW.out i id (by rw [← HID.out] at hi;omega) (by rw [HID.out];exact hi'))];rfl,HK2.out.trans HK.out⟩

theorem cbdd_right {F:Nat→Prop}{w:World}{sb:Nat}{M:St}(h:StoreRep F w sb M)(v:Edge)(l:Int)(hv:v.ok) :
  Calls Tryz.prog 184 #[.pointer (some ⟨sb,0,none⟩),.agg #[.int .u8 v.tag,.int .u32 v.to],.int .i64 l] w fun r w'=>r=.returned (.bool (rightL M 3 v l))∧Keeps w w':=by
 have hwf:=Lib.hid h.wf
 have HRK:=Lib.hid (fun(id:Int) (r:Rec) (hl:look M.cs id=some r)=>h.fit hl)
 have hn16:=h.wf.n16
 have hfew:=h.few
 have hlenr:=reachL_few h.wf h.few [v.to]
 have HG:=Lib.hid (fun(W:World) (hW:Keeps w W) (id:Int) (hid:id≤4294967295)=>store_get (h.keeps hW) id hid)
 have hleads:=fun(W:World) (hW:Keeps w W)=>store_leads (h.keeps hW) 3 v l hv
 have HRE:=Lib.hid (fun(W:World) (hW:Keeps w W) (b:Nat) (cap:Nat) (hE:IsEdges W (some ⟨b,0,none⟩) 1 [v])=>reach_calls (h.keeps hW) (some ⟨b,0,none⟩) 1 cap [v] hE (by omega))
 clear h
 rcases bool_cases (M.leads 3 v l) with hb|hb
 ·rw [hb] at hleads
  have HL:=Lib.hid hleads
  have HF:=Lib.hid (rightL_no hb)
  clear hleads hb
  go_enter Tryz.func184,Tryz.ntmps184
  go_wp2_with (first|(go_at_call 130;refine(HL.out _ (by(exact kp))).mono ?_;rintro e w1 ⟨rfl,hk⟩)|fail)
  go_ret
  exact⟨by rw [HF.out];rfl,by(exact kp)⟩
 ·rw [hb] at hleads
  have HL:=Lib.hid hleads
  have HB:=Lib.hid hb
  clear hleads hb
  go_enter Tryz.func184,Tryz.ntmps184
  go_wp2_with (first|(go_at_call 130;refine(HL.out _ (by(exact kp))).mono ?_;rintro e w1 ⟨rfl,hk⟩;have z0:w1.cell? ⟨w.heap.size,0,none⟩=some (.int .u8 v.tag):=hk.cell (by simp);have z1:w1.cell? ⟨w.heap.size,1,none⟩=some (.int .u32 v.to):=hk.cell (by simp);have hk1:Keeps w w1:=(by(exact kp)))|fail)
  refine(HRE.out _ (by(exact kp)) _ _ (isEdges_one hv (by simp [go_sem]) (by simp [go_sem]))).mono ?_
  rintro e w2 ⟨vv,rfl,hrow,hk2⟩
  obtain⟨ids,hids⟩:∃ ids,ids=reachL M.cs [v.to]:=⟨_,rfl⟩
  have hrow:IdRow w2 vv ids:=by rw [hids];exact hrow
  rw [← hids] at hlenr
  obtain⟨a,cap,rfl,hc⟩:=hrow
  have HID:=Lib.hid hids
  have HC:=Lib.hid hc
  have HK2:=Lib.hid (show Keeps w w2 by(exact kp))
  clear hids hc hk2 hk hk1 z0 z1 hv
  go_wp2_with fail
  go_loopg [23] ids.length (fun gk s23 wr=>∃ d:Nat,d+gk=ids.length∧s23=.int .i64 (d:Int)∧Keeps w2 wr∧∀ (i:Nat) (id:Int),i<d→ids[i]?=some id→wrongB M 3 (grec (look M.cs id))=false)
  case atStart=>exact⟨0,by omega,rfl,Keeps.refl _,fun i id hi=>absurd hi (by omega)⟩
  case round=>
   obtain⟨d,hd,rfl,hk,hw⟩:=hrel
   have HK:=Lib.hid hk
   have HW:=Lib.hid hw
   clear hk hw
   by_cases hlt:d<ids.length
   ·obtain⟨id,hid⟩:∃ id,ids[d]?=some id:=⟨_,List.getElem?_eq_getElem hlt⟩
    obtain⟨g,rfl,hcell⟩:=HC.out d id hid
    have cd:=HK.out.cell hcell
    have HI:=Lib.hid hid
    obtain⟨x,hx,gx,i2,i3⟩:=reach_rec hwf.out (d:=d) (id:=id) (es:=[v.to]) (by rw [← HID.out];exact hid)
    have t1:=gx.tb
    have t2:=gx.bn
    have hokx:=HRK.out id x hx
    have tok:0≤x.top:=hokx.top.1
    have tok2:0≤x.bot:=hokx.bot.1
    have tlo:=hokx.lo.2.2
    have HX:=Lib.hid hx
    have hkw:Keeps w wr:=HK2.out.trans HK.out
    have hnext:Hid (wrongB M 3 (grec (look M.cs id))=false→∀ (i:Nat) (id':Int),i<d+1→ids[i]?=some id'→wrongB M 3 (grec (look M.cs id'))=false):=Lib.hid (fun hf i id' hi hi'=>by
     by_cases hid:i<d
     ·exact HW.out i id' hid hi'
     ·obtain rfl:i=d:=by omega
      rw [HI.out] at hi'
      cases hi'
      exact hf)
    have hstop:Hid (wrongB M 3 (grec (look M.cs id))=true→rightL M 3 v l=false):=Lib.hid (fun hf=>rightL_bad (d:=d) (id:=id) (by rw [← HID.out];exact HI.out) hf)
    clear hid hcell hokx
    have HGx:Hid (∀ W,Keeps w W→Calls Tryz.prog 80 #[.pointer (some ⟨sb,0,none⟩),.int .u32 id] W fun e w'=>e=.returned (.tuple #[.agg #[.int .u8 x.form,.int .u8 x.top,.int .u8 x.bot,.int .u8 x.lo.tag,.int .u32 x.lo.to,.int .u8 x.hi.tag,.int .u32 x.hi.to],.bool true])∧Keeps W w'):=
     Lib.hid (fun W hW=>by have:=HG.out W hW id (by omega);rw [hx] at this;exact this)
    have hwn:Hid (look M.cs x.lo.to=none→wrongB M 3 (grec (look M.cs id))=false):=Lib.hid (fun hy=>by rw [hx];show(match look M.cs x.lo.to with|none=>false|some z=>_)=false;rw [hy])
    have hwy:Hid (∀ y,look M.cs x.lo.to=some y→wrongB M 3 (grec (look M.cs id))=(decide (y.top=x.bot+1)&&decide (y.hi=x.hi))):=Lib.hid (fun y hy=>by rw [hx];show(match look M.cs x.lo.to with|none=>false|some z=>_)=_;rw [hy];rfl)
    clear gx
    cases hy:look M.cs x.lo.to with
    | none=>
     have HGy:Hid (∀ W,Keeps w W→Calls Tryz.prog 80 #[.pointer (some ⟨sb,0,none⟩),.int .u32 x.lo.to] W fun e w'=>e=.returned (.tuple #[.agg #[.int .u8 Rec.zero.form,.int .u8 Rec.zero.top,.int .u8 Rec.zero.bot,.int .u8 Rec.zero.lo.tag,.int .u32 Rec.zero.lo.to,.int .u8 Rec.zero.hi.tag,.int .u32 Rec.zero.hi.to],.bool false])∧Keeps W w'):=
      Lib.hid (fun W hW=>by have:=HG.out W hW x.lo.to tlo;rw [hy] at this;exact this)
     have hz:=Lib.hid (hwn.out hy)
     clear hx hy
     (go_wp2_with fail
      refine(HGx.out _ hkw).mono ?_
      rintro e w3 ⟨rfl,hb3⟩
      go_wp2_with fail
      refine(HGy.out _ (by(exact kp))).mono ?_
      rintro e w4 ⟨rfl,hb4⟩
      have p0:=hb4.cell (a:=⟨w3.heap.size,2,none⟩) (v:=.int .u8 x.bot) (by simp [go_sem])
      have p1:=hb4.cell (a:=⟨w3.heap.size,3,none⟩) (v:=.int .u8 x.lo.tag) (by simp [go_sem])
      have p2:=hb4.cell (a:=⟨w3.heap.size,4,none⟩) (v:=.int .u32 x.lo.to) (by simp [go_sem])
      have p3:=hb4.cell (a:=⟨w3.heap.size,5,none⟩) (v:=.int .u8 x.hi.tag) (by simp [go_sem])
      have p4:=hb4.cell (a:=⟨w3.heap.size,6,none⟩) (v:=.int .u32 x.hi.to) (by simp [go_sem])
      have hs4:=hb4.size
      simp only [World.size_alloc] at hs4
      have hs5:w3.heap.size<w4.heap.size:=by omega
      go_wp2_with fail)
     go_roundg (gk-1)
     case rel=>exact⟨d+1,by omega,by simp,by have:=HK.out;(exact kp),hnext.out (by exact hz.out)⟩
     case measure=>omega
    | some y=>
     have HGy:Hid (∀ W,Keeps w W→Calls Tryz.prog 80 #[.pointer (some ⟨sb,0,none⟩),.int .u32 x.lo.to] W fun e w'=>e=.returned (.tuple #[.agg #[.int .u8 y.form,.int .u8 y.top,.int .u8 y.bot,.int .u8 y.lo.tag,.int .u32 y.lo.to,.int .u8 y.hi.tag,.int .u32 y.hi.to],.bool true])∧Keeps W w'):=
      Lib.hid (fun W hW=>by have:=HG.out W hW x.lo.to tlo;rw [hy] at this;exact this)
     have hz:=Lib.hid (hwy.out y hy)
     clear hx hy
     by_cases c1:y.top=x.bot+1
     ·by_cases c2:y.hi=x.hi
      ·have hq:=eql_same y.hi x.hi c2
       have hz:Hid (wrongB M 3 (grec (look M.cs id))=true):=Lib.hid (by rw [hz.out];simp [c1,c2])
       have HC2:=Lib.hid c2
       clear c2
       (go_wp2_with fail
        refine(HGx.out _ hkw).mono ?_
        rintro e w3 ⟨rfl,hb3⟩
        go_wp2_with fail
        refine(HGy.out _ (by(exact kp))).mono ?_
        rintro e w4 ⟨rfl,hb4⟩
        have p0:=hb4.cell (a:=⟨w3.heap.size,2,none⟩) (v:=.int .u8 x.bot) (by simp [go_sem])
        have p1:=hb4.cell (a:=⟨w3.heap.size,3,none⟩) (v:=.int .u8 x.lo.tag) (by simp [go_sem])
        have p2:=hb4.cell (a:=⟨w3.heap.size,4,none⟩) (v:=.int .u32 x.lo.to) (by simp [go_sem])
        have p3:=hb4.cell (a:=⟨w3.heap.size,5,none⟩) (v:=.int .u8 x.hi.tag) (by simp [go_sem])
        have p4:=hb4.cell (a:=⟨w3.heap.size,6,none⟩) (v:=.int .u32 x.hi.to) (by simp [go_sem])
        have hs4:=hb4.size
        simp only [World.size_alloc] at hs4
        have hs5:w3.heap.size<w4.heap.size:=by omega
        go_wp2_with fail)
       go_ret
       exact⟨by rw [hstop.out (by exact hz.out)];rfl,by have:=HK2.out;have:=HK.out;(exact kp)⟩
      ·have hq:=eql_other y.hi x.hi c2
       have hz:Hid (wrongB M 3 (grec (look M.cs id))=false):=Lib.hid (by rw [hz.out];simp [c1,c2])
       have HC2:=Lib.hid c2
       clear c2
       (go_wp2_with fail
        refine(HGx.out _ hkw).mono ?_
        rintro e w3 ⟨rfl,hb3⟩
        go_wp2_with fail
        refine(HGy.out _ (by(exact kp))).mono ?_
        rintro e w4 ⟨rfl,hb4⟩
        have p0:=hb4.cell (a:=⟨w3.heap.size,2,none⟩) (v:=.int .u8 x.bot) (by simp [go_sem])
        have p1:=hb4.cell (a:=⟨w3.heap.size,3,none⟩) (v:=.int .u8 x.lo.tag) (by simp [go_sem])
        have p2:=hb4.cell (a:=⟨w3.heap.size,4,none⟩) (v:=.int .u32 x.lo.to) (by simp [go_sem])
        have p3:=hb4.cell (a:=⟨w3.heap.size,5,none⟩) (v:=.int .u8 x.hi.tag) (by simp [go_sem])
        have p4:=hb4.cell (a:=⟨w3.heap.size,6,none⟩) (v:=.int .u32 x.hi.to) (by simp [go_sem])
        have hs4:=hb4.size
        simp only [World.size_alloc] at hs4
        have hs5:w3.heap.size<w4.heap.size:=by omega
        go_wp2_with fail)
       go_roundg (gk-1)
       case rel=>exact⟨d+1,by omega,by simp,by have:=HK.out;(exact kp),hnext.out (by exact hz.out)⟩
       case measure=>omega
     ·have hz:Hid (wrongB M 3 (grec (look M.cs id))=false):=Lib.hid (by rw [hz.out];simp [c1])
      (go_wp2_with fail
       refine(HGx.out _ hkw).mono ?_
       rintro e w3 ⟨rfl,hb3⟩
       go_wp2_with fail
       refine(HGy.out _ (by(exact kp))).mono ?_
       rintro e w4 ⟨rfl,hb4⟩
       have p0:=hb4.cell (a:=⟨w3.heap.size,2,none⟩) (v:=.int .u8 x.bot) (by simp [go_sem])
       have p1:=hb4.cell (a:=⟨w3.heap.size,3,none⟩) (v:=.int .u8 x.lo.tag) (by simp [go_sem])
       have p2:=hb4.cell (a:=⟨w3.heap.size,4,none⟩) (v:=.int .u32 x.lo.to) (by simp [go_sem])
       have p3:=hb4.cell (a:=⟨w3.heap.size,5,none⟩) (v:=.int .u8 x.hi.tag) (by simp [go_sem])
       have p4:=hb4.cell (a:=⟨w3.heap.size,6,none⟩) (v:=.int .u32 x.hi.to) (by simp [go_sem])
       have hs4:=hb4.size
       simp only [World.size_alloc] at hs4
       have hs5:w3.heap.size<w4.heap.size:=by omega
       go_wp2_with fail)
      go_roundg (gk-1)
      case rel=>exact⟨d+1,by omega,by simp,by have:=HK.out;(exact kp),hnext.out (by exact hz.out)⟩
      case measure=>omega
   ·go_wp2
    go_ret
    have hd':d=ids.length:=by omega
    refine⟨by rw [rightL_good HB.out (fun i id hi hi'=>HW.out i id (by rw [← HID.out] at hi;omega) (by rw [HID.out];exact hi'))];rfl,HK2.out.trans HK.out⟩

open Go.RowKit Go.Shelf

attribute [local go_sem] Oper.semAt_some

theorem boxAfter {A w3:World}{v u:Value}{L B:Nat}{o:Obj}(hg:(A.alloc o).grownBy w3 v.ownBlock)(nr:∀ k,v.ownBlock=some k→B≤k)(hL:L<B)(hc:A.cell? ⟨L,0,none⟩=some u)(hf:A.frozen? ⟨L,0,none⟩=false) :
  Upd (fun k=>v.ownBlock=some k) A w3∧w3.cell? ⟨L,0,none⟩=some u∧w3.frozen? ⟨L,0,none⟩=false:=by
 have hu:Upd (fun k=>v.ownBlock=some k) (A.alloc o) w3:=⟨hg.os,hg.tape,hg.output,hg.size,fun k hk hn=>hg.block k hk (fun e=>hn e.symm)⟩
 have hu3:Upd (fun k=>v.ownBlock=some k) A w3:=((Upd.refl _ A).alloc o).trans' hu
 have hn:¬(v.ownBlock=some L):=fun hh=>by have:=nr _ hh;omega
 exact⟨hu3,hu3.cellAt hn hc,(World.frozen?_of_block (a:=⟨L,0,none⟩) (hu3.block L (lt_of_cell hc) hn)).trans hf⟩

end Go.Proofs.YtpgcbmbnognieaaGreat
