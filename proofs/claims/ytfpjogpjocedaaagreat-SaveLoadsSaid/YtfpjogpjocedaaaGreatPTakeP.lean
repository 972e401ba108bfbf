/-
  The walk of tbdd.Right (printed by wip/mk_right.py).
-/
import Derived.Test.YtfpjogpjocedaaaGreatPHPlainA
import Derived.Test.YtfpjogpjocedaaaGreatPWireT
namespace Go.Proofs.YtfpjogpjocedaaaGreat
set_option linter.unusedSimpArgs false
set_option linter.unusedVariables false
set_option maxHeartbeats 600000
open Go.RowKit

set_option maxRecDepth 100000 in
set_option maxHeartbeats 2000000 in
theorem tbdd_right {F:Nat → Prop} {w:World} {sb:Nat} {M:St} (h:StoreRep F w sb M) (v:Edge) (l:Int) (hv:v.ok) :
  Calls Tryz.prog 103 #[.pointer (some ⟨sb,0,none⟩),.agg #[.int .u8 v.tag,.int .u32 v.to],.int .i64 l] w fun r w'=>r=.returned (.bool (rightL M 5 v l)) ∧ Keeps w w':=by
 have hwf:=Lib.hid h.wf
 have HRK:=Lib.hid (fun (id:Int) (r:Rec) (hl:look M.cs id=some r)=>h.fit hl)
 have hn16:=h.wf.n16
 have hfew:=h.few
 have hlenr:=reachL_few h.wf h.few [v.to]
 have HG:=Lib.hid (fun (W:World) (hW:Keeps w W) (id:Int) (hid:id ≤ 4294967295)=>store_get (h.keeps hW) id hid)
 have hleads:=fun (W:World) (hW:Keeps w W)=>store_leads (h.keeps hW) 5 v l hv
 have HRE:=Lib.hid (fun (W:World) (hW:Keeps w W) (b:Nat) (cap:Nat) (hE:IsEdges W (some ⟨b,0,none⟩) 1 [v])=>reach_calls (h.keeps hW) (some ⟨b,0,none⟩) 1 cap [v] hE (by omega))
 clear h
 rcases bool_cases (M.leads 5 v l) with hb | hb
 ·rw [hb] at hleads
  have HL:=Lib.hid hleads
  have HF:=Lib.hid (rightL_no hb)
  clear hleads hb
  go_enter Tryz.func103,Tryz.ntmps103
  go_wp2_with (first | (go_at_call 75;refine (HL.out _ (by (exact kp))).mono ?_;rintro e w1 ⟨rfl,hk⟩) | fail)
  go_ret
  exact ⟨by rw [HF.out];rfl,by (exact kp)⟩
 ·rw [hb] at hleads
  have HL:=Lib.hid hleads
  have HB:=Lib.hid hb
  clear hleads hb
  go_enter Tryz.func103,Tryz.ntmps103
  go_wp2_with (first | (go_at_call 75;refine (HL.out _ (by (exact kp))).mono ?_;rintro e w1 ⟨rfl,hk⟩;have z0:w1.cell? ⟨w.heap.size,0,none⟩=some (.int .u8 v.tag):=hk.cell (by simp);have z1:w1.cell? ⟨w.heap.size,1,none⟩=some (.int .u32 v.to):=hk.cell (by simp);have hk1:Keeps w w1:=(by (exact kp))) | fail)
  refine (HRE.out _ (by (exact kp)) _ _ (isEdges_one hv (by simp [go_sem]) (by simp [go_sem]))).mono ?_
  rintro e w2 ⟨vv,rfl,hrow,hk2⟩
  obtain ⟨ids,hids⟩:∃ ids,ids=reachL M.cs [v.to]:=⟨_,rfl⟩
  have hrow:IdRow w2 vv ids:=by rw [hids];exact hrow
  rw [← hids] at hlenr
  obtain ⟨a,cap,rfl,hc⟩:=hrow
  have HID:=Lib.hid hids
  have HC:=Lib.hid hc
  have HK2:=Lib.hid (show Keeps w w2 by (exact kp))
  clear hids hc hk2 hk hk1 z0 z1 hv
  go_wp2_with fail
  go_loopg [21] ids.length (fun gk s21 wr=>∃ d:Nat,d + gk=ids.length ∧ s21=.int .i64 (d:Int) ∧ Keeps w2 wr ∧ ∀ (i:Nat) (id:Int),i < d → ids[i]?=some id → wrongB M 5 (grec (look M.cs id))=false)
  case atStart=>exact ⟨0,by omega,rfl,Keeps.refl _,fun i id hi=>absurd hi (by omega)⟩
  case round=>
   obtain ⟨d,hd,rfl,hk,hw⟩:=hrel
   have HK:=Lib.hid hk
   have HW:=Lib.hid hw
   clear hk hw
   by_cases hlt:d < ids.length
   ·obtain ⟨id,hid⟩:∃ id,ids[d]?=some id:=⟨_,List.getElem?_eq_getElem hlt⟩
    obtain ⟨g,rfl,hcell⟩:=HC.out d id hid
    have cd:=HK.out.cell hcell
    have HI:=Lib.hid hid
    obtain ⟨x,hx,gx,i2,i3⟩:=reach_rec hwf.out (d:=d) (id:=id) (es:=[v.to]) (by rw [← HID.out];exact hid)
    have t1:=gx.tb
    have t2:=gx.bn
    have hokx:=HRK.out id x hx
    have tok:0 ≤ x.top:=hokx.top.1
    have tok2:0 ≤ x.bot:=hokx.bot.1
    have tlo:=hokx.lo.2.2
    have HX:=Lib.hid hx
    have hkw:Keeps w wr:=HK2.out.trans HK.out
    have hnext:Hid (wrongB M 5 (grec (look M.cs id))=false → ∀ (i:Nat) (id':Int),i < d + 1 → ids[i]?=some id' → wrongB M 5 (grec (look M.cs id'))=false):=Lib.hid (fun hf i id' hi hi'=>by
     by_cases hid:i < d
     ·exact HW.out i id' hid hi'
     ·obtain rfl:i=d:=by omega
      rw [HI.out] at hi'
      cases hi'
      exact hf)
    have hstop:Hid (wrongB M 5 (grec (look M.cs id))=true → rightL M 5 v l=false):=Lib.hid (fun hf=>rightL_bad (d:=d) (id:=id) (by rw [← HID.out];exact HI.out) hf)
    clear hid hcell hokx
    have HGx:Hid (∀ W,Keeps w W → Calls Tryz.prog 46 #[.pointer (some ⟨sb,0,none⟩),.int .u32 id] W fun e w'=>e=.returned (.tuple #[.agg #[.int .u8 x.form,.int .u8 x.top,.int .u8 x.bot,.int .u8 x.lo.tag,.int .u32 x.lo.to,.int .u8 x.hi.tag,.int .u32 x.hi.to],.bool true]) ∧ Keeps W w'):=
     Lib.hid (fun W hW=>by have:=HG.out W hW id (by omega);rw [hx] at this;exact this)
    have hwx:wrongB M 5 (grec (look M.cs id))=(decide (x.hi.to=0) && decide (x.lo.tag=x.top + 1)):=by rw [hx];rfl
    have HWx:=Lib.hid hwx
    clear hwx
    clear hx hkw gx
    by_cases c1:x.hi.to=0
    ·by_cases c2:x.lo.tag=x.top + 1
     ·go_wp2_with (first | (go_at_call 46;refine (HGx.out _ (HK2.out.trans HK.out)).mono ?_;rintro e w3 ⟨rfl,hb3⟩) | fail)
      go_ret
      exact ⟨by rw [hstop.out (by rw [HWx.out];simp [c1,c2])];rfl,by have:=HK2.out;have:=HK.out;(exact kp)⟩
     ·go_wp2_with (first | (go_at_call 46;refine (HGx.out _ (HK2.out.trans HK.out)).mono ?_;rintro e w3 ⟨rfl,hb3⟩) | fail)
      go_roundg (gk - 1)
      case rel=>exact ⟨d + 1,by omega,by simp,by have:=HK.out;(exact kp),hnext.out (by rw [HWx.out];simp [c1,c2])⟩
      case measure=>omega
    ·go_wp2_with (first | (go_at_call 46;refine (HGx.out _ (HK2.out.trans HK.out)).mono ?_;rintro e w3 ⟨rfl,hb3⟩) | fail)
     go_roundg (gk - 1)
     case rel=>exact ⟨d + 1,by omega,by simp,by have:=HK.out;(exact kp),hnext.out (by rw [HWx.out];simp [c1])⟩
     case measure=>omega
   ·go_wp2
    go_ret
    have hd':d=ids.length:=by omega
    refine ⟨by rw [rightL_good HB.out (fun i id hi hi'=>HW.out i id (by rw [← HID.out] at hi;omega) (by rw [HID.out];exact hi'))];rfl,HK2.out.trans HK.out⟩

def valL:List Int → Nat
 | []=>0
 | c :: cs=>c.toNat % 128 + 128 * valL cs

theorem valL_snoc (c:Int):∀ (xs:List Int),valL (xs ++ [c])=valL xs + 128 ^ xs.length * (c.toNat % 128):=by
 intro xs
 induction xs with
 | nil=>simp [valL]
 | cons x xs ih=>
  rw [List.cons_append]
  unfold valL
  rw [ih,List.length_cons,Nat.pow_succ,Nat.mul_add,← Nat.add_assoc]
  congr 1
  rw [← Nat.mul_assoc,Nat.mul_comm 128 (128 ^ xs.length)]

theorem drop_at {α:Type} {l:List α} {i:Nat} {x:α} (h:l[i]?=some x):l.drop i=x :: l.drop (i + 1):=by
 obtain ⟨hi,he⟩:=List.getElem?_eq_some_iff.1 h
 rw [List.drop_eq_getElem_cons hi,he]

structure TakeAt (bs:List Int) (o k:Nat):Prop where
 k10:k ≤ 10
 le:o + k ≤ bs.length
 more:∀ i x,o ≤ i → i < o + k → bs[i]?=some x → 128 ≤ x
 part:k ≤ 9 → PartG (bs.drop o) k (valL ((bs.drop o).take k)) (bs.drop (o + k))
 ten:k=10 → getG 10 (bs.drop o)=none ∨ ∃ n r,getG 10 (bs.drop o)=some (n,r) ∧ 2 ^ 64 ≤ n

theorem TakeAt.start {bs:List Int} {o:Nat} (h:o ≤ bs.length):TakeAt bs o 0:=
 ⟨by omega,h,fun i x h1 h2=>by omega,fun _=>PartG.start _,fun h=>by omega⟩

theorem TakeAt.next {bs:List Int} {o k:Nat} (h:TakeAt bs o k) (hk:k < 10) {c:Int} (hc:bs[o + k]?=some c) (h1:128 ≤ c ∧ c ≤ 255):TakeAt bs o (k + 1):=by
 have hp:=h.part (by omega)
 have hlt:=(List.getElem?_eq_some_iff.1 hc).1
 rw [drop_at hc] at hp
 refine ⟨by omega,by omega,fun i x h2 h3 hx=>?_,fun h9=>?_,fun h10=>?_⟩
 ·by_cases e:i=o + k
  ·subst e
   rw [hc] at hx
   cases hx
   exact h1.1
  ·exact h.more i x h2 (by omega) hx
 ·have h3:=hp.next (by omega) h1
  have e:(bs.drop o).take (k + 1)=(bs.drop o).take k ++ [c]:=by
   rw [List.take_add_one,List.getElem?_drop,hc]
   rfl
  have hl:((bs.drop o).take k).length=k:=by rw [List.length_take,List.length_drop];omega
  rw [e,valL_snoc,hl]
  exact h3
 ·have:k=9:=by omega
  subst this
  exact hp.great ⟨by omega,h1.2⟩

theorem TakeAt.none10 {bs:List Int} {o:Nat} (h:TakeAt bs o 10) {most:Nat} (hm:most < 2 ^ 64):getB most (bs.drop o)=none:=by
 unfold getB
 rcases h.ten rfl with h1 | ⟨n,r,h1,h2⟩
 ·rw [h1]
 ·rw [h1]
  simp only []
  rw [if_neg (by omega)]

theorem TakeAt.noneEnd {bs:List Int} {o k:Nat} (h:TakeAt bs o k) (hk:k ≤ 9) (he:o + k=bs.length) (most:Nat):getB most (bs.drop o)=none:=by
 have hp:=h.part hk
 have:bs.drop (o + k)=[]:=by rw [he,List.drop_length]
 rw [this] at hp
 unfold getB
 rw [hp.end hk]

theorem TakeAt.noneOver {bs:List Int} {o k:Nat} (h:TakeAt bs o k) (hk:k ≤ 9) {c:Int} (hc:bs[o + k]?=some c) (hl:0 ≤ c ∧ c < 128) (ho:(k ≠ 0 ∧ c=0) ∨ (k=9 ∧ 1 < c)) {most:Nat} (hm:most < 2 ^ 64):getB most (bs.drop o)=none:=by
 have hp:=h.part hk
 rw [drop_at hc] at hp
 unfold getB
 rcases ho with ⟨h0,rfl⟩ | ⟨rfl,h1⟩
 ·rw [hp.zero hk h0]
 ·rcases hp.great ⟨h1,by omega⟩ with h2 | ⟨n,r,h2,h3⟩
  ·rw [h2]
  ·rw [h2]
   simp only []
   rw [if_neg (by omega)]

theorem TakeAt.some' {bs:List Int} {o k:Nat} (h:TakeAt bs o k) (hk:k ≤ 9) {c:Int} (hc:bs[o + k]?=some c) (hl:0 ≤ c ∧ c < 128) (h0:¬ (k ≠ 0 ∧ c=0)) (h9:¬ (k=9 ∧ 1 < c)) :
  getG 10 (bs.drop o)=some (valL ((bs.drop o).take (k + 1)),bs.drop (o + (k + 1))) ∧ valL ((bs.drop o).take (k + 1)) < 2 ^ 64:=by
 have hp:=h.part hk
 rw [drop_at hc] at hp
 have hlt:=(List.getElem?_eq_some_iff.1 hc).1
 have e:(bs.drop o).take (k + 1)=(bs.drop o).take k ++ [c]:=by
  rw [List.take_add_one,List.getElem?_drop,hc]
  rfl
 have hlen:((bs.drop o).take k).length=k:=by rw [List.length_take,List.length_drop];omega
 have hm:c.toNat % 128=c.toNat:=Nat.mod_eq_of_lt (by omega)
 rw [e,valL_snoc,hlen,hm]
 exact ⟨hp.last hk hl h0,PartG.fits hp.low hk hl (fun h=>by omega)⟩

def sfx (bs:List Int) (o k j:Nat):Nat:=valL ((bs.drop (o + k + 1 - j)).take j)

theorem sfx_zero (bs:List Int) (o k:Nat):sfx bs o k 0=0:=rfl

theorem sfx_next {bs:List Int} {o k j:Nat} (hj:j ≤ k) {c:Int} (hc:bs[o + k - j]?=some c):sfx bs o k (j + 1)=c.toNat % 128 + 128 * sfx bs o k j:=by
 unfold sfx
 have e1:o + k + 1 - (j + 1)=o + k - j:=by omega
 have e2:o + k - j + 1=o + k + 1 - j:=by omega
 rw [e1,drop_at hc,e2]
 rfl

theorem sfx_all (bs:List Int) (o k:Nat):sfx bs o k (k + 1)=valL ((bs.drop o).take (k + 1)):=by
 unfold sfx
 have e:o + k + 1 - (k + 1)=o:=by omega
 rw [e]

theorem sfx_le {bs:List Int} {o k:Nat} (hlt:o + k < bs.length):∀ (d j:Nat),j + d=k + 1 → sfx bs o k j ≤ sfx bs o k (k + 1):=by
 intro d
 induction d with
 | zero=>intro j h;rw [show j=k + 1 by omega];exact Nat.le_refl _
 | succ d ih=>
  intro j h
  have h1:=ih (j + 1) (by omega)
  have h2:=sfx_next (bs:=bs) (o:=o) (k:=k) (j:=j) (by omega) (List.getElem?_eq_getElem (by omega))
  omega

def Over (bs:List Int) (o i:Nat):Prop:=∃ j x,o < j ∧ j < i ∧ j ≤ o + 9 ∧ bs[j]?=some x ∧ (x=0 ∨ (j=o + 9 ∧ 1 < x))

theorem Over.none (bs:List Int) (o:Nat):¬ Over bs o (o + 1):=fun ⟨j,x,h1,h2,_⟩=>by omega

theorem Over.next {bs:List Int} {o i:Nat} (hi:o < i ∧ i ≤ o + 9) {x:Int} (hx:bs[i]?=some x):Over bs o (i + 1) ↔ Over bs o i ∨ (x=0 ∨ (i=o + 9 ∧ 1 < x)):=by
 constructor
 ·rintro ⟨j,y,h1,h2,h3,h4,h5⟩
  by_cases e:j=i
  ·subst e
   rw [hx] at h4
   cases h4
   exact .inr h5
  ·exact .inl ⟨j,y,h1,by omega,h3,h4,h5⟩
 ·rintro (⟨j,y,h1,h2,h3,h4,h5⟩ | h)
  ·exact ⟨j,y,h1,by omega,h3,h4,h5⟩
  ·exact ⟨i,x,hi.1,by omega,hi.2,hx,h⟩

theorem over_last {bs:List Int} {o k:Nat} (h:TakeAt bs o k) (hk:k ≤ 9) {c:Int} (hc:bs[o + k]?=some c) (i:Nat) (hi:i ≤ o + k + 1) (hd:bs.length ≤ i ∨ o + 9 < i ∨ o + k < i):Over bs o i ↔ (k ≠ 0 ∧ c=0) ∨ (k=9 ∧ 1 < c):=by
 have hlt:=(List.getElem?_eq_some_iff.1 hc).1
 constructor
 ·rintro ⟨j,x,h1,h2,h3,h4,h5⟩
  by_cases e:j=o + k
  ·subst e
   rw [hc] at h4
   cases h4
   rcases h5 with h5 | ⟨h5,h6⟩
   ·exact .inl ⟨by omega,h5⟩
   ·exact .inr ⟨by omega,h6⟩
  ·have:=h.more j x (by omega) (by omega) h4
   rcases h5 with h5 | ⟨h5,h6⟩
   ·omega
   ·omega
 ·rintro (⟨h1,h2⟩ | ⟨h1,h2⟩)
  ·exact ⟨o + k,c,by omega,by omega,by omega,hc,.inl h2⟩
  ·exact ⟨o + k,c,by omega,by omega,by omega,hc,.inr ⟨by omega,h2⟩⟩

end Go.Proofs.YtfpjogpjocedaaaGreat
