/-
  ramageref17.Table over the state: the table of what an edge means.
-/
import Derived.Test.YtpgcbmbnognieaaGreatPHoldsY
import Derived.Test.YtpgcbmbnognieaaGreatPMeansA
namespace Go.Proofs.YtpgcbmbnognieaaGreat
set_option linter.unusedSimpArgs false
set_option linter.unusedVariables false
set_option maxHeartbeats 600000
open Go.RowKit

def rv:Nat → Nat → Nat → Int
 | _,0,_=>0
 | y,k + 1,m=>(if y / 2 ^ k % 2=1 then 2 ^ m else 0) + rv (y % 2 ^ k) k (m + 1)

theorem tabX_at {g:Int → Bool}:∀ (k m:Nat) (x:Int) (y:Nat),y < 2 ^ k → (tabX g k m x)[y]?=some (g (x + rv y k m)):=by
 intro k
 induction k with
 | zero=>
  intro m x y hy
  have:y=0:=by simpa using hy
  subst this
  show some (g x)=some (g (x + 0))
  rw [Int.add_zero]
 | succ k ih=>
  intro m x y hy
  have hp:0 < 2 ^ k:=Nat.pow_pos (by decide)
  have e2:2 ^ (k + 1)=2 ^ k + 2 ^ k:=by rw [Nat.pow_succ];omega
  show (tabX g k (m + 1) x ++ tabX g k (m + 1) (x + 2 ^ m))[y]?=some (g (x + ((if y / 2 ^ k % 2=1 then 2 ^ m else 0) + rv (y % 2 ^ k) k (m + 1))))
  have hl:=tabX_len g k (m + 1) x
  by_cases h:y < 2 ^ k
  ·rw [List.getElem?_append_left (by rw [hl];exact h),ih _ _ _ h,Nat.div_eq_of_lt h,Nat.mod_eq_of_lt h,if_neg (by decide),Int.zero_add]
  ·have h1:y / 2 ^ k=1:=by
    rw [Nat.div_eq_iff hp]
    omega
   have h2:y % 2 ^ k=y - 2 ^ k:=by
    have:=Nat.div_add_mod y (2 ^ k)
    rw [h1] at this
    omega
   rw [List.getElem?_append_right (by rw [hl];omega),hl,ih _ _ _ (by omega),h1,h2,if_pos (by decide),Int.add_assoc]

theorem pow_cast (n:Nat):((2 ^ n:Nat):Int)=2 ^ n:=by push_cast;rfl

theorem rv_next (y k m:Nat):rv y (k + 1) m=bitI (decide (y / 2 ^ k % 2=1)) * ((2 ^ m:Nat):Int) + rv (y % 2 ^ k) k (m + 1):=by
 show (if y / 2 ^ k % 2=1 then (2:Int) ^ m else 0) + _=_
 congr 1
 by_cases h:y / 2 ^ k % 2=1
 ·rw [if_pos h,decide_eq_true h]
  show (2:Int) ^ m=1 * _
  rw [Int.one_mul]
  push_cast
  rfl
 ·rw [if_neg h,decide_eq_false h]
  show (0:Int)=0 * _
  rw [Int.zero_mul]

theorem mod_bit (y k:Nat):y % 2 ^ (k + 1) / 2 ^ k % 2=y / 2 ^ k % 2 ∧ y % 2 ^ (k + 1) % 2 ^ k=y % 2 ^ k:=by
 have hp:0 < 2 ^ k:=Nat.pow_pos (by decide)
 constructor
 ·rw [Nat.mod_pow_succ,Nat.add_mul_div_left _ _ hp,Nat.div_eq_of_lt (Nat.mod_lt _ hp),Nat.zero_add,Nat.mod_mod]
 ·rw [Nat.pow_succ,Nat.mod_mul_right_mod]

theorem bitB_nat (y k:Nat):bitB (y:Int) (k:Int)=decide (y / 2 ^ k % 2=1):=by
 unfold bitB
 rw [Int.toNat_natCast]
 congr 1
 have:(y:Int) / 2 ^ k % 2=((y / 2 ^ k % 2:Nat):Int):=by push_cast;rfl
 rw [this]
 exact propext ⟨fun h=>by exact_mod_cast h,fun h=>by exact_mod_cast h⟩

theorem bitB_small {x:Int} {m:Nat} (h0:0 ≤ x) (h:x < ((2 ^ m:Nat):Int)):bitB x (m:Int)=false:=by
 unfold bitB
 rw [Int.toNat_natCast,← pow_cast,Int.ediv_eq_zero_of_lt h0 h]
 rfl

theorem put_calls (x v b:Int) (w:World) (hx0:0 ≤ x) (hx1:x ≤ 65535) (hv0:0 ≤ v) (hv1:v ≤ 16) (hb0:0 ≤ b) (hb1:b ≤ 1) (hz:bitB x v=false) :
  Calls Tryz.prog 77 #[.int .i64 x,.int .i64 v,.int .i64 b] w fun e w'=>e=.returned (.int .i64 (x + b * ((2 ^ v.toNat:Nat):Int))) ∧ Keeps w w':=by
 obtain ⟨n,rfl⟩:∃ n:Nat,v=(n:Int):=⟨v.toNat,by omega⟩
 have HV:=Lib.hid (fun (W:World)=>value_calls x n W hx0 hx1 hv0 hv1)
 have HS:=Lib.hid (fun (W:World)=>size_calls n (by omega) W)
 rw [hz] at HV
 have hp1:2 ^ n ≤ 2 ^ 16:=Nat.pow_le_pow_right (by decide) (by omega)
 have e16:(2:Nat) ^ 16=65536:=rfl
 rw [Int.toNat_natCast]
 obtain ⟨p,hp⟩:∃ p,p=2 ^ n:=⟨_,rfl⟩
 rw [← hp] at HS hp1 ⊢
 rw [e16] at hp1
 clear hp e16
 change Hid (∀ W,Calls Tryz.prog 74 #[.int .i64 x,.int .i64 n] W fun e w'=>e=.returned (.int .i64 0) ∧ W=w') at HV
 have hbb:b=0 ∨ b=1:=by omega
 rcases hbb with rfl | rfl
 ·go_enter Tryz.func77,Tryz.ntmps77
  go_wp2_with (first | (go_at_call 74;refine (HV.out _).mono ?_;rintro e w' ⟨rfl,rfl⟩) | (go_at_call 52;refine (HS.out _).mono ?_;rintro e w' ⟨rfl,rfl⟩) | fail)
  go_ret
  exact ⟨by simp,Keeps.refl _⟩
 ·go_enter Tryz.func77,Tryz.ntmps77
  go_wp2_with (first | (go_at_call 74;refine (HV.out _).mono ?_;rintro e w' ⟨rfl,rfl⟩) | (go_at_call 52;refine (HS.out _).mono ?_;rintro e w' ⟨rfl,rfl⟩) | fail)
  go_ret
  exact ⟨by simp,Keeps.refl _⟩

set_option maxRecDepth 100000 in
set_option maxHeartbeats 1000000 in
theorem table_calls {F:Nat → Prop} {w:World} {mb:Nat} {M:St} {L:List (Int × Rec)} (h:RefRep F w mb M L) (f:Int) (hf:1 ≤ f ∧ f ≤ 5) (e:Edge) (he:e.ok) (k m:Nat) (hk:(m:Int) + (k:Int)=M.n) (hl:M.leads f e (m:Int)=true) :
  Calls Tryz.prog 17 #[.pointer (some ⟨mb,0,none⟩),.int .u8 f,.agg #[.int .u8 e.tag,.int .u32 e.to],.int .i64 (m:Int)] w fun r w'=>∃ B,r=.returned (.slice (some ⟨B,0,none⟩) (2 ^ k) (2 ^ k)) ∧ w.heap.size ≤ B ∧ BoolsAt w' B (tabE M f e (m:Int)) ∧ Keeps w w':=by
 have hn16:=h.wf.n16
 have hlen:(tabE M f e (m:Int)).length=2 ^ k:=by rw [tabE_len];congr 1;omega
 have hat:∀ y,y < 2 ^ k → (tabE M f e (m:Int))[y]?=some (tv M f (0 + rv y k m) (m:Int) e):=fun y hy=>by
  unfold tabE
  rw [show (M.n - (m:Int)).toNat=k by omega,Int.toNat_natCast]
  exact tabX_at k m 0 y hy
 have hH:=fun (x:Int) (hx0:0 ≤ x) (hx1:x ≤ 65535) (W:World) (hW:Keeps w W)=>rholds_calls h f x hf hx0 hx1 (M.n - m).toNat (m:Int) e W hW he (by omega) (by omega) (by omega) (fun r hr2=>by obtain ⟨a,b,_⟩:=leads_some hl hr2;exact ⟨a,b⟩)
 obtain ⟨ts,hts⟩:∃ ts,ts=tabE M f e (m:Int):=⟨_,rfl⟩
 rw [← hts] at hlen hat ⊢
 have c3:w.cell? ⟨mb,3,none⟩=some (.int .i64 M.n):=h.vars
 have hmb:=h.pos
 have HH:=Lib.hid hH
 have HLEN:=Lib.hid hlen
 have HAT:=Lib.hid hat
 have HK:=Lib.hid hk
 have hk16:k ≤ 16:=by omega
 have hm16:m ≤ 16:=by omega
 have HS:=Lib.hid (fun (W:World)=>size_calls k (by omega) W)
 have h16:2 ^ k ≤ 2 ^ 16:=Nat.pow_le_pow_right (by decide) hk16
 have e16:(2:Nat) ^ 16=65536:=rfl
 rw [e16] at h16
 obtain ⟨p,hp⟩:∃ p,p=2 ^ k:=⟨_,rfl⟩
 rw [← hp] at HS HLEN HAT h16 ⊢
 have HP:=Lib.hid hp
 obtain ⟨n,hn⟩:∃ n,n=M.n:=⟨_,rfl⟩
 rw [← hn] at c3 hn16
 have hnk:(n - (m:Int))=(k:Int):=by omega
 have hmk:m + k ≤ 16:=by omega
 have h1:n ≤ 16:=by omega
 have h2:0 ≤ n:=by omega
 have HN:=Lib.hid hn
 obtain ⟨j0,hj,jz0,jz1,jz2⟩:=info_parts (show (Tryz.prog.info? 4).map (fun i=>(i.zero,i.size,i.bytes))=some (some (.bool false),1,1) by kernel_rfl)
 clear h hlen hat hk hH hl hts hp hn e16
 go_enter Tryz.func17,Tryz.ntmps17
 go_wp2_with (first
  | (go_at_call 52;refine (HS.out _).mono ?_;rintro e2 w2 ⟨rfl,rfl⟩)
  | (at_make;refine wpList_make_full _ rfl _ _ 40 rfl (w.heap.size + 1) 4 j0 (.bool false) 1 Tryz.underlying40 hj jz0 jz1 .i64 .i64 (p:Int) (p:Int) p rfl rfl rfl rfl (by rw [jz2];omega) (by unfold maxLen;omega) (by simp) ?_;intro w1 hown1 hg1)
  | fail)
 simp only [World.size_alloc] at hown1
 have HB1:=Lib.hid (bools_made hown1)
 have hkw:Keeps (w.alloc (.cells #[.int .u8 e.tag,.int .u32 e.to] 25)) w1:=⟨hg1.os,hg1.tape,hg1.output,hg1.size,fun i hi=>hg1.block i hi (by simp)⟩
 have HK1:=Lib.hid hkw
 have x0:w1.cell? ⟨w.heap.size,0,none⟩=some (.int .u8 e.tag):=hkw.cell (by simp [go_sem])
 have x1:w1.cell? ⟨w.heap.size,1,none⟩=some (.int .u32 e.to):=hkw.cell (by simp [go_sem])
 have hkk:Keeps w w1:=((Keeps.refl _).alloc _).trans hkw
 have HKK:=Lib.hid hkk
 clear hown1 hg1 hkw hkk
 go_loopg [11] p (fun gk s11 wr=>∃ (y:Nat) (bs:List Bool),y + gk=p ∧ s11=.int .i64 (y:Int) ∧ bs.length=p ∧ BoolsAt wr (w.heap.size + 1) bs ∧ (∀ i,i < y → bs[i]?=ts[i]?) ∧ Upd (fun j=>j=w.heap.size + 1) w1 wr)
 case atStart=>exact ⟨0,_,by omega,rfl,by simp,HB1.out,fun i hi=>by omega,Upd.refl _ _⟩
 case round=>
  obtain ⟨y,bs,hy,rfl,hbl,hB,hag,hk0⟩:=hrel
  have HB:=Lib.hid hB
  have HBL:=Lib.hid hbl
  have HAG:=Lib.hid hag
  have HK0:=Lib.hid hk0
  clear hB hbl hag hk0
  by_cases hlt:y < p
  ·obtain ⟨g0,hg0⟩:∃ g,g=gk:=⟨_,rfl⟩
   have hy16:(y:Int) ≤ 65535:=by omega
   have HG0:=Lib.hid hg0
   clear hg0
   obtain ⟨wo,rfl⟩:∃ W,W=wr:=⟨wr,rfl⟩
   go_wp2_with fail
   go_loopg [12,13] k (fun gk s12 s13 wi=>∃ (j:Nat) (x:Int),j + gk=k ∧ s13=.int .i64 (j:Int) ∧ s12=.int .i64 x ∧ 0 ≤ x ∧ x < ((2 ^ (m + j):Nat):Int) ∧ Hid (x + rv (y % 2 ^ (k - j)) (k - j) (m + j)=rv y k m) ∧ Keeps wo wi)
   case atStart=>
    refine ⟨0,0,by omega,rfl,rfl,by omega,?_,Lib.hid ?_,Keeps.refl _⟩
    ·have:0 < 2 ^ (m + 0):=Nat.pow_pos (by decide)
     omega
    ·rw [Nat.sub_zero,Nat.add_zero,Nat.mod_eq_of_lt (by rw [← HP.out];exact hlt)]
     omega
   case round=>
    obtain ⟨j,x,hj2,rfl,rfl,hx0,hx1,HRV,hki⟩:=hrel
    have HKI:=Lib.hid hki
    clear hki
    by_cases hjk:j < k
    ·obtain ⟨q,hq⟩:∃ q,k=j + 1 + q:=⟨k - (j + 1),by omega⟩
     have hq2:(k:Int) - 1 - (j:Int)=(q:Int):=by omega
     have hp2:2 ^ (m + j) ≤ 2 ^ 15:=Nat.pow_le_pow_right (by decide) (by omega)
     have e15:(2:Nat) ^ 15=32768:=rfl
     rw [e15] at hp2
     have hz:=bitB_small hx0 hx1
     obtain ⟨bb,hbb⟩:∃ bb,bb=bitB (y:Int) (q:Int):=⟨_,rfl⟩
     have HV:=Lib.hid (fun (W:World)=>value_calls (y:Int) (q:Int) W (by omega) hy16 (by omega) (by omega))
     rw [← hbb] at HV
     have hb01:0 ≤ bitI bb ∧ bitI bb ≤ 1:=by cases bb <;> decide
     have HPU:=Lib.hid (fun (W:World)=>put_calls x ((m:Int) + (j:Int)) (bitI bb) W hx0 (by omega) (by omega) (by omega) hb01.1 hb01.2 (by rw [show (m:Int) + (j:Int)=((m + j:Nat):Int) by push_cast;rfl];exact hz))
     have hstep:x + bitI bb * ((2 ^ ((m:Int) + (j:Int)).toNat:Nat):Int) < ((2 ^ (m + (j + 1)):Nat):Int) ∧ 0 ≤ x + bitI bb * ((2 ^ ((m:Int) + (j:Int)).toNat:Nat):Int) ∧ x + bitI bb * ((2 ^ ((m:Int) + (j:Int)).toNat:Nat):Int) + rv (y % 2 ^ (k - (j + 1))) (k - (j + 1)) (m + (j + 1))=rv y k m:=by
      rw [show ((m:Int) + (j:Int)).toNat=m + j by omega]
      have e1:2 ^ (m + (j + 1))=2 ^ (m + j) * 2:=by rw [← Nat.add_assoc,Nat.pow_succ]
      have hr:=HRV.out
      have ek:k - j=q + 1:=by omega
      have ek2:k - (j + 1)=q:=by omega
      rw [ek,rv_next,(mod_bit y q).1,(mod_bit y q).2,← bitB_nat,← hbb] at hr
      rw [ek2,← Nat.add_assoc m j 1]
      refine ⟨?_,?_,by rw [← hr,Int.add_assoc]⟩
      ·rw [← Nat.add_assoc] at e1
       rw [e1]
       push_cast
       push_cast at hx1
       cases bb
       ·show x + 0 * _ < _
        omega
       ·show x + 1 * _ < _
        omega
      ·cases bb
       ·show 0 ≤ x + 0 * _
        omega
       ·show 0 ≤ x + 1 * _
        omega
     obtain ⟨x',hx'⟩:∃ x',x'=x + bitI bb * ((2 ^ ((m:Int) + (j:Int)).toNat:Nat):Int):=⟨_,rfl⟩
     rw [← hx'] at hstep HPU
     have HST:=Lib.hid hstep
     obtain ⟨b0,hb0⟩:∃ b0,b0=bitI bb:=⟨_,rfl⟩
     rw [← hb0] at HV HPU
     have HQ:=Lib.hid hq
     clear hstep hx' hbb hz hp2 e15 hb01 hb0 hx0 hx1 HRV hq
     go_wp2_with (first
      | (go_at_call 74;with_reducible refine (HV.out _).mono ?_;rintro e2 w2 ⟨rfl,rfl⟩)
      | (go_at_call 77;refine (HPU.out _).mono ?_;rintro e2 w2 ⟨rfl,hk2⟩)
      | fail)
     go_roundg (gk - 1)
     case rel=>exact ⟨j + 1,x',by omega,by simp,rfl,HST.out.2.1,HST.out.1,Lib.hid HST.out.2.2,HKI.out.trans hk2⟩
     case measure=>omega
    ·obtain rfl:j=k:=by omega
     have hrv:x=rv y j m:=by
      have:=HRV.out
      rw [Nat.sub_self] at this
      simpa [rv] using this
     have hx2:x ≤ 65535:=by
      have h16:2 ^ (m + j) ≤ 2 ^ 16:=Nat.pow_le_pow_right (by decide) (by omega)
      have e16:(2:Nat) ^ 16=65536:=rfl
      rw [e16] at h16
      omega
     have hkwr:Keeps w wr:=(HKK.out.new HK0.out (fun i hi=>by omega)).trans HKI.out
     have hHx:=fun (W:World) (hW:Keeps wr W)=>HH.out x hx0 hx2 W (hkwr.trans hW)
     obtain ⟨bv,hbv⟩:∃ bv,bv=hS M f x (M.n - (m:Int)).toNat (m:Int) e:=⟨_,rfl⟩
     rw [← hbv] at hHx
     have hts:ts[y]?=some bv:=by
      rw [HAT.out y hlt,Int.zero_add,← hrv,hbv]
      rfl
     have HHx:=Lib.hid hHx
     have HTS:=Lib.hid hts
     have HBI:=Lib.hid (HB.out.keep (Keeps.upd HKI.out (fun _=>False)) (fun h=>h))
     have hul:Upd (fun j=>j=w.heap.size + 1) w1 wr:=HK0.out.trans' (Keeps.upd HKI.out _)
     have HUL:=Lib.hid hul
     have z0:=hul.cellAt (b:=w.heap.size) (by omega) x0
     have z1:=hul.cellAt (b:=w.heap.size) (by omega) x1
     have cD:=HBI.out.cell (i:=y) (b:=bs[y]'(by rw [HBL.out];exact hlt)) (List.getElem?_eq_getElem _)
     have fD:=HBI.out.frozen y
     have lB:=HBI.out.lt
     clear hkwr hHx hbv hts hul hrv hx0 hx1 HRV
     go_wp2_with (first
      | (go_at_call 78;with_reducible refine (HHx.out _ (Keeps.refl _)).mono ?_;rintro e2 w2 ⟨rfl,hk2⟩;have cE:=hk2.cell cD;have fE:=hk2.frz (a:=⟨w.heap.size + 1,y,none⟩) lB fD)
      | fail)
     go_roundg (g0 - 1)
     case rel=>exact ⟨y + 1,bs.set y bv,by have:=HG0.out;omega,by simp,by rw [List.length_set];exact HBL.out,(HBI.out.keep (Keeps.upd hk2 (fun _=>False)) (fun h=>h)).set y bv,fun i hi=>by
      by_cases e:i=y
      ·subst e
       rw [List.getElem?_set_self (by rw [HBL.out];exact hlt)]
       exact HTS.out.symm
      ·rw [List.getElem?_set_ne (fun hh=>e hh.symm)]
       exact HAG.out i (by omega),(HUL.out.trans' (Keeps.upd hk2 _)).setCell (p:=⟨w.heap.size + 1,y,none⟩) (Or.inl rfl) _⟩
     case measure=>have:=HG0.out;omega
  ·obtain rfl:y=p:=by omega
   have hbs:bs=ts:=by
    apply List.ext_getElem?
    intro i
    by_cases hi:i < y
    ·exact HAG.out i hi
    ·rw [List.getElem?_eq_none (by rw [HBL.out];omega),List.getElem?_eq_none (by rw [HLEN.out];omega)]
   have HBS:=Lib.hid hbs
   clear hbs
   go_wp2_with fail
   go_ret
   exact ⟨w.heap.size + 1,rfl,by omega,by rw [← HBS.out];exact HB.out,HKK.out.new HK0.out (fun i hi=>by omega)⟩

end Go.Proofs.YtpgcbmbnognieaaGreat
