/-
  Plainly: what has been read so far, number by number, node by node.
-/
import Derived.Test.YtfpjogpjocedaaaGreatPSaveR
namespace Go.Proofs.YtfpjogpjocedaaaGreat
set_option linter.unusedSimpArgs false
set_option linter.unusedVariables false
set_option maxHeartbeats 600000

structure NumsAt (v:Nat) (rd0:Option (List Int)) (d:Nat) (pre:List Int) (rd:Option (List Int)):Prop where
 le:d ≤ v
 len:pre.length=d
 all:pre ++ (numsR (v - d) rd).1=(numsR v rd0).1
 rest:(numsR (v - d) rd).2=(numsR v rd0).2

theorem NumsAt.start (v:Nat) (rd0:Option (List Int)):NumsAt v rd0 0 [] rd0:=⟨Nat.zero_le _,rfl,rfl,rfl⟩

theorem NumsAt.next {v:Nat} {rd0:Option (List Int)} {d:Nat} {pre:List Int} {rd:Option (List Int)} (h:NumsAt v rd0 d pre rd) (hd:d < v):NumsAt v rd0 (d + 1) (pre ++ [((numR 16 rd).1:Int)]) (numR 16 rd).2:=by
 have e:v - d=(v - (d + 1)) + 1:=by omega
 have h1:=h.all
 have h2:=h.rest
 rw [e] at h1 h2
 exact ⟨by omega,by rw [List.length_append,h.len];rfl,by rw [List.append_assoc];exact h1,h2⟩

theorem NumsAt.end {v:Nat} {rd0:Option (List Int)} {pre:List Int} {rd:Option (List Int)} (h:NumsAt v rd0 v pre rd):pre=(numsR v rd0).1 ∧ rd=(numsR v rd0).2:=by
 have h1:=h.all
 have h2:=h.rest
 rw [Nat.sub_self] at h1 h2
 exact ⟨by rw [← h1];exact (List.append_nil pre).symm,h2⟩

structure RecsAt (f:Int) (k:Nat) (rd0:Option (List Int)) (d:Nat) (pre:List Rec) (rd:Option (List Int)):Prop where
 le:d ≤ k
 len:pre.length=d
 all:pre ++ (recsR f (k - d) d rd).1=(recsR f k 0 rd0).1
 rest:(recsR f (k - d) d rd).2=(recsR f k 0 rd0).2

theorem RecsAt.start (f:Int) (k:Nat) (rd0:Option (List Int)):RecsAt f k rd0 0 [] rd0:=⟨Nat.zero_le _,rfl,rfl,rfl⟩

theorem RecsAt.next {f:Int} {k:Nat} {rd0:Option (List Int)} {d:Nat} {pre:List Rec} {rd:Option (List Int)} (h:RecsAt f k rd0 d pre rd) (hd:d < k):RecsAt f k rd0 (d + 1) (pre ++ [(recR f d rd).1]) (recR f d rd).2:=by
 have e:k - d=(k - (d + 1)) + 1:=by omega
 have h1:=h.all
 have h2:=h.rest
 rw [e] at h1 h2
 exact ⟨by omega,by rw [List.length_append,h.len];rfl,by rw [List.append_assoc];exact h1,h2⟩

theorem RecsAt.end {f:Int} {k:Nat} {rd0:Option (List Int)} {pre:List Rec} {rd:Option (List Int)} (h:RecsAt f k rd0 k pre rd):pre=(recsR f k 0 rd0).1 ∧ rd=(recsR f k 0 rd0).2:=by
 have h1:=h.all
 have h2:=h.rest
 rw [Nat.sub_self] at h1 h2
 exact ⟨by rw [← h1];exact (List.append_nil pre).symm,h2⟩

theorem RecsAt.bad {f:Int} {k:Nat} {rd0:Option (List Int)} {d:Nat} {pre:List Rec} (h:RecsAt f k rd0 d pre none):(recsR f k 0 rd0).2=none:=by
 rw [← h.rest,recsR_none]

theorem readB_eq (b:List Int):readB b=if (edgeR ((numR 5 (numR 16 (some b)).2).1:Int) (numR b.length (numsR (numR 16 (some b)).1 (numR 5 (numR 16 (some b)).2).2).2).1 (recsR ((numR 5 (numR 16 (some b)).2).1:Int) (numR b.length (numsR (numR 16 (some b)).1 (numR 5 (numR 16 (some b)).2).2).2).1 0 (numR b.length (numsR (numR 16 (some b)).1 (numR 5 (numR 16 (some b)).2).2).2).2).2).2=some [] ∧ 1 ≤ (numR 5 (numR 16 (some b)).2).1 then some ⟨(numR 16 (some b)).1,(numR 5 (numR 16 (some b)).2).1,(numsR (numR 16 (some b)).1 (numR 5 (numR 16 (some b)).2).2).1,(recsR ((numR 5 (numR 16 (some b)).2).1:Int) (numR b.length (numsR (numR 16 (some b)).1 (numR 5 (numR 16 (some b)).2).2).2).1 0 (numR b.length (numsR (numR 16 (some b)).1 (numR 5 (numR 16 (some b)).2).2).2).2).1,(edgeR ((numR 5 (numR 16 (some b)).2).1:Int) (numR b.length (numsR (numR 16 (some b)).1 (numR 5 (numR 16 (some b)).2).2).2).1 (recsR ((numR 5 (numR 16 (some b)).2).1:Int) (numR b.length (numsR (numR 16 (some b)).1 (numR 5 (numR 16 (some b)).2).2).2).1 0 (numR b.length (numsR (numR 16 (some b)).1 (numR 5 (numR 16 (some b)).2).2).2).2).2).1⟩ else none:=rfl

open Go.RowKit

set_option maxRecDepth 100000 in
set_option maxHeartbeats 2000000 in
theorem tbdd_right {F:Nat → Prop} {w:World} {sb:Nat} {M:St} (h:StoreRep F w sb M) (v:Edge) (l:Int) (hv:v.ok) :
  Calls Tryz.prog 103 #[.pointer (some ⟨sb,0,none⟩),.agg #[.int .u8 v.tag,.int .u32 v.to],.int .i64 l] w fun r w'=>r=.returned (.bool (rightL M 5 v l)) ∧ Keeps w w':=by
 have hwf:=Lib.hid h.wf
 have HRK:=Lib.hid (fun (id:Int) (r:Rec) (hl:look M.cs id=some r)=>h.fit hl)
 have hn16:=h.wf.n16
 have hfew:=h.few
 have hlenr:=reachL_few h.wf h.few [v.to]
 have HG:=Lib.hid (fun (W:World) (hW:Keeps w W) (id:Int) (hid:id ≤ 4294967295)=>store_get (h.keeps hW) id hid)
 have hleads:=fun (W:World) (hW:Keeps w W)=>store_leads (h.keeps hW) 5 v l hv
 have HRE:=Lib.hid (fun (W:World) (hW:Keeps w W) (b:Nat) (cap:Nat) (hE:IsEdges W (some ⟨b,0,none⟩) 1 [v])=>reach_calls (h.keeps hW) (some ⟨b,0,none⟩) 1 cap [v] hE (by omega))
 clear h
 rcases bool_cases (M.leads 5 v l) with hb | hb
 ·rw [hb] at hleads
  have HL:=Lib.hid hleads
  have HF:=Lib.hid (rightL_no hb)
  clear hleads hb
  go_enter Tryz.func103,Tryz.ntmps103
  go_wp2_with (first | (go_at_call 75;refine (HL.out _ (by (exact kp))).mono ?_;rintro e w1 ⟨rfl,hk⟩) | fail)
  go_ret
  exact ⟨by rw [HF.out];rfl,by (exact kp)⟩
 ·rw [hb] at hleads
  have HL:=Lib.hid hleads
  have HB:=Lib.hid hb
  clear hleads hb
  go_enter Tryz.func103,Tryz.ntmps103
  go_wp2_with (first | (go_at_call 75;refine (HL.out _ (by (exact kp))).mono ?_;rintro e w1 ⟨rfl,hk⟩;have z0:w1.cell? ⟨w.heap.size,0,none⟩=some (.int .u8 v.tag):=hk.cell (by simp);have z1:w1.cell? ⟨w.heap.size,1,none⟩=some (.int .u32 v.to):=hk.cell (by simp);have hk1:Keeps w w1:=(by (exact kp))) | fail)
  refine (HRE.out _ (by (exact kp)) _ _ (isEdges_one hv (by simp [go_sem]) (by simp [go_sem]))).mono ?_
  rintro e w2 ⟨vv,rfl,hrow,hk2⟩
  obtain ⟨ids,hids⟩:∃ ids,ids=reachL M.cs [v.to]:=⟨_,rfl⟩
  have hrow:IdRow w2 vv ids:=by rw [hids];exact hrow
  rw [← hids] at hlenr
  obtain ⟨a,cap,rfl,hc⟩:=hrow
  have HID:=Lib.hid hids
  have HC:=Lib.hid hc
  have HK2:=Lib.hid (show Keeps w w2 by (exact kp))
  clear hids hc hk2 hk hk1 z0 z1 hv
  go_wp2_with fail
  go_loopg [21] ids.length (fun gk s21 wr=>∃ d:Nat,d + gk=ids.length ∧ s21=.int .i64 (d:Int) ∧ Keeps w2 wr ∧ ∀ (i:Nat) (id:Int),i < d → ids[i]?=some id → wrongB M 5 (grec (look M.cs id))=false)
  case atStart=>exact ⟨0,by omega,rfl,Keeps.refl _,fun i id hi=>absurd hi (by omega)⟩
  case round=>
   obtain ⟨d,hd,rfl,hk,hw⟩:=hrel
   have HK:=Lib.hid hk
   have HW:=Lib.hid hw
   clear hk hw
   by_cases hlt:d < ids.length
   ·obtain ⟨id,hid⟩:∃ id,ids[d]?=some id:=⟨_,List.getElem?_eq_getElem hlt⟩
    obtain ⟨g,rfl,hcell⟩:=HC.out d id hid
    have cd:=HK.out.cell hcell
    have HI:=Lib.hid hid
    obtain ⟨x,hx,gx,i2,i3⟩:=reach_rec hwf.out (d:=d) (id:=id) (es:=[v.to]) (by rw [← HID.out];exact hid)
    have t1:=gx.tb
    have t2:=gx.bn
    have hokx:=HRK.out id x hx
    have tok:0 ≤ x.top:=hokx.top.1
    have tok2:0 ≤ x.bot:=hokx.bot.1
    have tlo:=hokx.lo.2.2
    have HX:=Lib.hid hx
    have hkw:Keeps w wr:=HK2.out.trans HK.out
    have hnext:Hid (wrongB M 5 (grec (look M.cs id))=false → ∀ (i:Nat) (id':Int),i < d + 1 → ids[i]?=some id' → wrongB M 5 (grec (look M.cs id'))=false):=Lib.hid (fun hf i id' hi hi'=>by
     by_cases hid:i < d
     ·exact HW.out i id' hid hi'
     ·obtain rfl:i=d:=by omega
      rw [HI.out] at hi'
      cases hi'
      exact hf)
    have hstop:Hid (wrongB M 5 (grec (look M.cs id))=true → rightL M 5 v l=false):=Lib.hid (fun hf=>rightL_bad (d:=d) (id:=id) (by rw [← HID.out];exact HI.out) hf)
    clear hid hcell hokx
    have HGx:Hid (∀ W,Keeps w W → Calls Tryz.prog 46 #[.pointer (some ⟨sb,0,none⟩),.int .u32 id] W fun e w'=>e=.returned (.tuple #[.agg #[.int .u8 x.form,.int .u8 x.top,.int .u8 x.bot,.int .u8 x.lo.tag,.int .u32 x.lo.to,.int .u8 x.hi.tag,.int .u32 x.hi.to],.bool true]) ∧ Keeps W w'):=
     Lib.hid (fun W hW=>by have:=HG.out W hW id (by omega);rw [hx] at this;exact this)
    have hwx:wrongB M 5 (grec (look M.cs id))=(decide (x.hi.to=0) && decide (x.lo.tag=x.top + 1)):=by rw [hx];rfl
    have HWx:=Lib.hid hwx
    clear hwx
    clear hx hkw gx
    by_cases c1:x.hi.to=0
    ·by_cases c2:x.lo.tag=x.top + 1
     ·go_wp2_with (first | (go_at_call 46;refine (HGx.out _ (HK2.out.trans HK.out)).mono ?_;rintro e w3 ⟨rfl,hb3⟩) | fail)
      go_ret
      exact ⟨by rw [hstop.out (by rw [HWx.out];simp [c1,c2])];rfl,by have:=HK2.out;have:=HK.out;(exact kp)⟩
     ·go_wp2_with (first | (go_at_call 46;refine (HGx.out _ (HK2.out.trans HK.out)).mono ?_;rintro e w3 ⟨rfl,hb3⟩) | fail)
      go_roundg (gk - 1)
      case rel=>exact ⟨d + 1,by omega,by simp,by have:=HK.out;(exact kp),hnext.out (by rw [HWx.out];simp [c1,c2])⟩
      case measure=>omega
    ·go_wp2_with (first | (go_at_call 46;refine (HGx.out _ (HK2.out.trans HK.out)).mono ?_;rintro e w3 ⟨rfl,hb3⟩) | fail)
     go_roundg (gk - 1)
     case rel=>exact ⟨d + 1,by omega,by simp,by have:=HK.out;(exact kp),hnext.out (by rw [HWx.out];simp [c1])⟩
     case measure=>omega
   ·go_wp2
    go_ret
    have hd':d=ids.length:=by omega
    refine ⟨by rw [rightL_good HB.out (fun i id hi hi'=>HW.out i id (by rw [← HID.out] at hi;omega) (by rw [HID.out];exact hi'))];rfl,HK2.out.trans HK.out⟩

theorem read_end {bs:List Int} {n0 f0 k0 i:Nat} {rd0 rd1 rd rd2 rdi rd9:Option (List Int)} {pre:List Int} {pr:List Rec} {e9:Edge} (h0:(n0,rd0)=numR 16 (some bs)) (h1:(f0,rd1)=numR 5 rd0) (h2:pre=(numsR n0 rd1).1) (h3:rd=(numsR n0 rd1).2) (h4:(k0,rd2)=numR bs.length rd)
  (hA:RecsAt (f0:Int) k0 rd2 i pr rdi) (hx:i=k0 ∨ rdi=none) (h9:(e9,rd9)=edgeR (f0:Int) k0 rdi) :
  (readB bs=if rd9=some [] ∧ 1 ≤ f0 then some ⟨n0,f0,pre,pr,e9⟩ else none) ∧ (rd9=some [] → pr.length=k0):=by
 have hb:=readB_eq bs
 rw [← h0] at hb
 simp only [] at hb
 rw [← h1] at hb
 simp only [] at hb
 rw [← h2,← h3,← h4] at hb
 simp only [] at hb
 rcases hx with rfl | rfl
 ·obtain ⟨a,b⟩:=hA.end
  rw [← a,← b,← h9] at hb
  exact ⟨hb,fun _=>hA.len⟩
 ·have hn:=hA.bad
  rw [hn,edgeR_none] at hb
  rw [edgeR_none] at h9
  cases h9
  simp only [] at hb
  refine ⟨?_,fun h=>by cases h⟩
  rw [hb,if_neg (fun h=>by cases h.1),if_neg (fun h=>by cases h.1)]

theorem read_fin {bs:List Int} {rd9:Option (List Int)} {f0:Nat} {T0:Txt} {P:Txt → Prop} (h:readB bs=if rd9=some [] ∧ 1 ≤ f0 then some T0 else none) (hf:T0.form=f0) (ok:Bool) (hok:ok=true ↔ (rd9=some [] ∧ isFormB (f0:Int)=true)) (hP:rd9=some [] → P T0) :
  (ok=true ↔ ∃ T,readB bs=some T ∧ isFormB (T.form:Int)=true) ∧ ∀ T,readB bs=some T → P T:=by
 have hff:isFormB (f0:Int)=true → 1 ≤ f0:=fun hb=>by
  unfold isFormB at hb
  simp at hb
  omega
 by_cases hc:rd9=some [] ∧ 1 ≤ f0
 ·rw [if_pos hc] at h
  refine ⟨?_,fun T hT=>?_⟩
  ·rw [hok]
   constructor
   ·rintro ⟨_,b⟩
    exact ⟨T0,h,by rw [hf];exact b⟩
   ·rintro ⟨T,h1,h2⟩
    rw [h] at h1
    cases h1
    rw [hf] at h2
    exact ⟨hc.1,h2⟩
  ·rw [h] at hT
   cases hT
   exact hP hc.1
 ·rw [if_neg hc] at h
  refine ⟨?_,fun T hT=>by rw [h] at hT;cases hT⟩
  rw [hok]
  constructor
  ·rintro ⟨a,b⟩
   exact absurd ⟨a,hff b⟩ hc
  ·rintro ⟨T,h1,_⟩
   rw [h] at h1
   cases h1

end Go.Proofs.YtfpjogpjocedaaaGreat
