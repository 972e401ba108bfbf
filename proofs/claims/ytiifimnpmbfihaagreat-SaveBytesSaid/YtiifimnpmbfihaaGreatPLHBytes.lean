/-
  Proved: the statement SaveBytes, for every input.
-/
import Derived.Test.YtiifimnpmbfihaaGreatPSaveA
import Derived.Test.YtiifimnpmbfihaaGreatPSaveL
import Derived.Test.YtiifimnpmbfihaaGreatRows
namespace Go.Proofs.YtiifimnpmbfihaaGreat
set_option linter.unusedSimpArgs false
set_option linter.unusedVariables false
set_option maxHeartbeats 600000
open Go.ChangeShapes Go.WideShapes Go.ChangeAt Go.RowKit

theorem rmay18_calls (n:Int) (a:Option Addr) (len cap:Nat) (f:Int) (w:World) (hl:len ≤ 20) :
  Calls Tryz.prog 19 #[.int .i64 n,.slice a len cap,.int .u8 f] w fun e w'=>e=.returned (.int .i64 (if (len:Int)=n then (if isFormB f=true then 0 else 4) else 1)) ∧ Keeps w w':=by
 have HI:=Lib.hid (fun (W:World)=>ris_calls f W)
 by_cases hn:(len:Int)=n
 ·rw [if_pos hn]
  have g1:((len:Int) != n)=false:=by simp [hn]
  cases hb:isFormB f with
  | true=>
   rw [if_pos rfl]
   rw [hb] at HI
   subst hn
   clear hb
   go_enter Tryz.func19,Tryz.ntmps19
   go_wp2_with (first | (go_at_call 87;refine (HI.out _).mono ?_;rintro e2 w2 ⟨rfl,rfl⟩) | fail)
   go_ret
   exact ⟨rfl,by (exact kp)⟩
  | false=>
   rw [if_neg (by simp)]
   rw [hb] at HI
   subst hn
   clear hb
   go_enter Tryz.func19,Tryz.ntmps19
   go_wp2_with (first | (go_at_call 87;refine (HI.out _).mono ?_;rintro e2 w2 ⟨rfl,rfl⟩) | fail)
   go_ret
   exact ⟨rfl,by (exact kp)⟩
 ·rw [if_neg hn]
  have g1:((len:Int) != n)=true:=by simp [hn]
  go_enter Tryz.func19,Tryz.ntmps19
  go_wp2_with fail
  go_ret
  exact ⟨rfl,by (exact kp)⟩

set_option maxRecDepth 100000 in
theorem refRight_long (a:Option Addr) (cap:Nat) (ps:List Int) (w:World) (h:IntsAt w a ps) (hl:16 < ps.length) (hl2:ps.length ≤ 1048576) :
  Calls Tryz.prog 20 #[.slice a ps.length cap] w fun e w'=>e=.returned (.bool false) ∧ w=w':=by
 obtain ⟨N,hN⟩:∃ N,N=ps.length:=⟨_,rfl⟩
 rw [← hN] at hl hl2 ⊢
 have H:=Lib.hid h
 have HN:=Lib.hid hN
 clear h hN
 go_enter Tryz.func20,Tryz.ntmps20
 go_wp2
 go_loopg [3,4,5] N (fun gk s3 s4 s5 wr=>∃ (d:Nat),s3=.int .i64 (d:Int) ∧ d + gk=N ∧ (∀ i:Nat,i < d → ps.count (i:Int)=1) ∧ w=wr)
 case atStart=>exact ⟨0,rfl,by omega,fun i hi=>by omega,rfl⟩
 case round=>
  obtain ⟨d,rfl,hd,hall,rfl⟩:=hrel
  have HALL:=Lib.hid hall
  obtain ⟨g0,hg0⟩:∃ g,g=gk:=⟨_,rfl⟩
  have HG0:=Lib.hid hg0
  clear hall hg0
  by_cases hlt:d < N
  ·go_wp2_with fail
   go_loopg [4,5] N (fun gk s4 s5 wi=>∃ (j c:Nat),s5=.int .i64 (j:Int) ∧ s4=.int .i64 (c:Int) ∧ j + gk=N ∧ c=(ps.take j).count (d:Int) ∧ c ≤ j ∧ w=wi)
   case atStart=>exact ⟨0,0,rfl,rfl,by omega,by simp,by omega,rfl⟩
   case round=>
    obtain ⟨j,c,rfl,rfl,hj,hcc,hcj,rfl⟩:=hrel
    have HCC:=Lib.hid hcc
    clear hcc
    by_cases hjl:j < N
    ·obtain ⟨x,hx⟩:∃ b,ps[j]?=some b:=⟨_,List.getElem?_eq_getElem (by rw [← HN.out];exact hjl)⟩
     obtain ⟨b,off,rfl,hc⟩:=H.out j x hx
     have ht:=take_snoc hx
     have HT:=Lib.hid ht
     clear hx ht
     by_cases hxd:x=(d:Int)
     ·subst hxd
      go_wp2_with fail
      go_roundg (gk - 1)
      case rel=>exact ⟨j + 1,c + 1,by simp,by simp,by omega,by rw [HT.out,List.count_append,HCC.out];simp,by omega,rfl⟩
      case measure=>omega
     ·go_wp2_with fail
      go_roundg (gk - 1)
      case rel=>exact ⟨j + 1,c,by simp,rfl,by omega,by rw [HT.out,List.count_append,HCC.out];simp [hxd],by omega,rfl⟩
      case measure=>omega
    ·have hcp:c=ps.count (d:Int):=by
      rw [HCC.out,List.take_of_length_le (by rw [← HN.out];omega)]
     have HCP:=Lib.hid hcp
     clear hcp
     by_cases h1:c=1
     ·subst h1
      have hall:∀ i:Nat,i < d + 1 → ps.count (i:Int)=1:=fun i hi=>by
       by_cases e:i=d
       ·subst e;exact HCP.out.symm
       ·exact HALL.out i (by omega)
      have HALL2:=Lib.hid hall
      clear hall
      go_wp2_with fail
      go_roundg (g0 - 1)
      case rel=>exact ⟨d + 1,by simp,by have:=HG0.out;omega,HALL2.out,rfl⟩
      case measure=>have:=HG0.out;omega
     ·have g1:((c:Int) != 1)=true:=by simp;omega
      go_wp2_with fail
      go_ret
      exact ⟨rfl,rfl⟩
  ·have hdN:d=N:=by omega
   subst hdN
   go_wp2_with fail
   go_ret
   exact ⟨by simp;omega,rfl⟩

theorem refRight_any (a:Option Addr) (cap:Nat) (ps:List Int) (w:World) (h:IntsAt w a ps) (hl:ps.length ≤ 1048576) :
  Calls Tryz.prog 20 #[.slice a ps.length cap] w fun e w'=>e=.returned (.bool (permB ps)) ∧ w=w':=by
 by_cases h16:ps.length ≤ 16
 ·exact refRight_calls a cap ps w h h16
 ·have hp:permB ps=false:=by
   cases hb:permB ps with
   | false=>rfl
   | true=>exact absurd (permB_iff.1 hb).1 h16
  rw [hp]
  exact refRight_long a cap ps w h (by omega) hl

theorem saveB_len {M:St} (hw:M.wf) (hfa:FitA M) (hfew:M.cs.length ≤ 1048576) {ps:List Int} (hps:∀ x ∈ ps,0 ≤ x ∧ x ≤ 16) (hpl:ps.length ≤ 16) {f:Int} (hf:0 ≤ f ∧ f ≤ 255) {e:Edge} (he:e.ok):(saveB M ps f e).length ≤ 100000000:=by
 have hS:=(NumOk.nil M).next hw hfa e.to
 have h1:=ids_few M.cs.length (numM M e.to []) hS.once (fun x hx=>by
  cases hl:look M.cs x with
  | none=>exact absurd hl (hS.known x hx)
  | some r=>have:=look_some hl;exact ⟨this.1,this.2.1⟩)
 have n0:=hw.n0
 have n16:=hw.n16
 have a1:=putB_len10 (n:=M.n.toNat) (by omega)
 have a2:=putB_len10 (n:=f.toNat) (by omega)
 have a3:=flat_len (fun x:Int=>putB x.toNat) 10 ps (fun x hx=>putB_len10 (by have:=hps x hx;omega))
 have a4:=putB_len10 (n:=(numM M e.to []).length) (by omega)
 have a5:=recsB_len (f:=f) hfa (S:=numM M e.to []) (by omega)
 have a6:=edgeB_len (f:=f) (S:=numM M e.to []) he (by omega)
 unfold saveB
 simp only [List.length_append]
 omega

theorem saveBytes_out (n:Int) (a1:Option Addr) (l1 cap1:Nat) (a2:Option Addr) (l2 cap2:Nat) (f:Int) (v:Edge) (w:World) (h:40 < l1 ∨ n < 0 ∨ 16 < n ∨ 20 < l2) :
  Calls Tryz.prog 3 #[.int .i64 n,.slice a1 l1 cap1,.slice a2 l2 cap2,.int .u8 f,.agg #[.int .u8 v.tag,.int .u32 v.to]] w fun e w'=>e=.returned (.bool true) ∧ Keeps w w':=by
 go_enter Tryz.func3,Tryz.ntmps3
 go_wp2_with fail
 refine (l28_alive _).mono ?_
 rintro e w1 ⟨rfl,hk1⟩
 have HK:=Lib.hid (((Keeps.refl w).alloc _).trans hk1)
 clear hk1
 by_cases h1:40 < l1
 ·have g1:(40:Int) < (l1:Int):=by omega
  go_wp2_with fail
  all_goals first | (exfalso;omega) | (go_ret;exact ⟨rfl,by have hkw:=HK.out;(exact kp)⟩)
 ·have g1:¬ (40:Int) < (l1:Int):=by omega
  by_cases h2:n < 0
  ·go_wp2_with fail
   all_goals first | (exfalso;omega) | (go_ret;exact ⟨rfl,by have hkw:=HK.out;(exact kp)⟩)
  ·by_cases h3:16 < n
   ·go_wp2_with fail
    all_goals first | (exfalso;omega) | (go_ret;exact ⟨rfl,by have hkw:=HK.out;(exact kp)⟩)
   ·have g4:(20:Int) < (l2:Int):=by omega
    go_wp2_with fail
    all_goals first | (exfalso;omega) | (go_ret;exact ⟨rfl,by have hkw:=HK.out;(exact kp)⟩)

theorem saveBytes_in (n:Int) (a1:Option Addr) (l1 cap1:Nat) (rs:List Rec) (a2:Option Addr) (cap2:Nat) (ps:List Int) (f:Int) (v:Edge) (w:World) (h1:l1 ≤ 40) (h0:0 ≤ n) (h16:n ≤ 16) (hp20:ps.length ≤ 20) (hrs:IsRecs w a1 l1 rs) (hI:IntsAt w a2 ps) (hf:0 ≤ f ∧ f ≤ 255) (hv:v.ok) :
  Calls Tryz.prog 3 #[.int .i64 n,.slice a1 l1 cap1,.slice a2 ps.length cap2,.int .u8 f,.agg #[.int .u8 v.tag,.int .u32 v.to]] w fun e w'=>e=.returned (.bool true) ∧ Keeps w w':=by
 have HRS:=Lib.hid (fun (W:World) (hW:Keeps w W)=>built' n 100 a1 l1 cap1 rs W h0 h16 (by decide) (by decide) (by omega) ⟨hrs.1,fun i r hr=>by obtain ⟨q1,b,off,q2,q3⟩:=hrs.2 i r hr;exact ⟨q1,b,off,q2,fun j hj=>by
  have hc:=q3 j hj
  have hj7:j < (recVals r).length:=hj
  rw [List.getElem?_eq_getElem hj7] at hc ⊢
  exact hW.cell hc⟩⟩)
 have HOF:=Lib.hid (fun (W:World) (hW:Keeps w W)=>orderOf_calls a2 cap2 ps W (fun i x hx=>by obtain ⟨b,off,q1,q2⟩:=hI i x hx;exact ⟨b,off,q1,hW.cell q2⟩) (by omega))
 have HRP:=Lib.hid (fun (W:World) (hW:Keeps w W)=>refRight_any a2 cap2 ps W (fun i x hx=>by obtain ⟨b,off,q1,q2⟩:=hI i x hx;exact ⟨b,off,q1,hW.cell q2⟩) (by omega))
 have HI:=Lib.hid hI
 have HMAY:=Lib.hid (fun (W:World)=>rmay18_calls n a2 ps.length cap2 f W hp20)
 obtain ⟨N,hN⟩:∃ N,N=ps.length:=⟨_,rfl⟩
 have HN:=Lib.hid hN
 rw [← hN] at HOF HRP HMAY hp20 ⊢
 clear hrs hI hN
 have g1:¬ (40:Int) < (l1:Int):=by omega
 have g2:¬ n < 0:=by omega
 have g3:¬ (16:Int) < n:=by omega
 have g4:¬ (20:Int) < (N:Int):=by omega
 go_enter Tryz.func3,Tryz.ntmps3
 go_wp2_with fail
 refine (l28_alive _).mono ?_
 rintro e w1 ⟨rfl,hk1⟩
 have z0:=hk1.cell (a:=⟨w.heap.size,0,none⟩) (v:=.int .u8 v.tag) (by simp [go_sem])
 have z1:=hk1.cell (a:=⟨w.heap.size,1,none⟩) (v:=.int .u32 v.to) (by simp [go_sem])
 have HK1:=Lib.hid (((Keeps.refl w).alloc _).trans hk1)
 have s1:=hk1.size
 simp only [World.size_alloc] at s1
 clear hk1
 go_wp2_with fail
 refine (HRS.out _ HK1.out).mono ?_
 rintro e w2 ⟨sb,mb,M,L,rfl,hB,hMn,hMr,hMl⟩
 have HB:=Lib.hid hB
 have HK2:=Lib.hid (HK1.out.trans hB.keep)
 replace z0:=hB.keep.cell z0
 replace z1:=hB.keep.cell z1
 have s2:=hB.keep.size
 clear hB HRS
 go_wp2_with fail
 refine (HOF.out _ HK2.out).mono ?_
 rintro e w3 ⟨hk3,ho⟩
 have HB3:=Lib.hid (HB.out.keeps hk3)
 have HK3:=Lib.hid (HK2.out.trans hk3)
 replace z0:=hk3.cell z0
 replace z1:=hk3.cell z1
 have s3:=hk3.size
 have l3:w.heap.size < w3.heap.size:=by omega
 clear hk3 HOF
 cases hp:permB ps with
 | false=>
  rw [hp,if_neg (by simp)] at ho
  subst ho
  rw [hp] at HRP
  have HSV:=Lib.hid (fun (W:World) (sp:Option Addr)=>saveNone_calls (sp:=sp) (op:=none) (.inr rfl) f v W)
  go_wp2_with (first
   | (go_at_call 18;refine (HSV.out _ _).mono ?_;rintro e w4 ⟨rfl,hk4⟩;replace z0:=hk4.cell z0;replace z1:=hk4.cell z1;have HK4:=Lib.hid (HK3.out.trans hk4);clear hk4)
   | (go_at_call 19;refine (HMAY.out _).mono ?_;rintro e w5 ⟨rfl,hk5⟩;have HK5:=Lib.hid (HK4.out.trans hk5);clear hk5)
   | (go_at_call 20;refine (HRP.out _ HK5.out).mono ?_;rintro e w6 ⟨rfl,rfl⟩)
   | fail)
  all_goals (go_ret;exact ⟨rfl,by have hkw:=HK5.out;(exact kp)⟩)
 | true=>
  rw [hp,if_pos rfl] at ho
  rw [hp] at HRP
  obtain ⟨ob,Fo,rfl,hO,-⟩:=ho
  obtain ⟨⟨F,G,hS,hR,-⟩,-⟩:=HB3.out
  have hfail:∀ c:Int,saveCode M ps.length f v=c → c ≠ 0 → ∀ W,Keeps w3 W → Calls Tryz.prog 18 #[.pointer (some ⟨sb,0,none⟩),.pointer (some ⟨ob,0,none⟩),.int .u8 f,.agg #[.int .u8 v.tag,.int .u32 v.to]] W fun r w'=>r=.returned (.tuple #[.slice none 0 0,.int .u8 c]) ∧ Keeps W w':=fun c hc h0 W hW=>(save_calls (hS.keeps hW) (hO.keeps hW) f hf v hv).mono fun r w' hh=>by
   rcases hh with ⟨h1,_⟩ | ⟨_,h2,h3⟩
   ·rw [hc] at h1;exact absurd h1 h0
   ·rw [hc] at h2;exact ⟨h2,h3⟩
  by_cases hn:(N:Int)=n
  ·rw [if_pos hn] at HMAY
   have hMN:M.n=((ps.length:Nat):Int):=by rw [hMn,← hn,HN.out]
   cases hb:isFormB f with
   | false=>
    rw [hb,if_neg (by simp)] at HMAY
    have HSV:=Lib.hid (hfail 4 (by unfold saveCode;rw [if_pos hMN,if_neg (by rw [hb];simp)]) (by decide))
    clear hfail hS hR hO hMN hb hp
    go_wp2_with (first
     | (go_at_call 18;refine (HSV.out _ (by (exact kp))).mono ?_;rintro e w4 ⟨rfl,hk4⟩;replace z0:=hk4.cell z0;replace z1:=hk4.cell z1;have HK4:=Lib.hid (HK3.out.trans hk4);clear hk4)
     | (go_at_call 19;refine (HMAY.out _).mono ?_;rintro e w5 ⟨rfl,hk5⟩;have HK5:=Lib.hid (HK4.out.trans hk5);clear hk5)
     | (go_at_call 20;refine (HRP.out _ HK5.out).mono ?_;rintro e w6 ⟨rfl,rfl⟩)
     | fail)
    all_goals (go_ret;exact ⟨rfl,by have hkw:=HK5.out;(exact kp)⟩)
   | true=>
    rw [hb,if_pos rfl] at HMAY
    have HRG:=Lib.hid (fun (W:World) (hW:Keeps w3 W)=>ref17_right (hR.keeps hW) f v 0 hv)
    cases hg:kRight M f v 0 with
    | false=>
     rw [hg] at HRG
     have HSV:=Lib.hid (hfail 1 (by unfold saveCode;rw [if_pos hMN,if_pos hb,if_neg (by rw [hg];simp)]) (by decide))
     clear hfail hS hR hO hMN hb hp hg
     go_wp2_with (first
      | (go_at_call 18;refine (HSV.out _ (by (exact kp))).mono ?_;rintro e w4 ⟨rfl,hk4⟩;replace z0:=hk4.cell z0;replace z1:=hk4.cell z1;have HK34:=Lib.hid hk4;have HK4:=Lib.hid (HK3.out.trans hk4);have s4:=hk4.size;have l4:w.heap.size < w4.heap.size:=(by omega);clear hk4)
      | (go_at_call 19;refine (HMAY.out _).mono ?_;rintro e w5 ⟨rfl,hk5⟩;replace z0:=hk5.cell z0;replace z1:=hk5.cell z1;have HK35:=Lib.hid (HK34.out.trans hk5);have HK5:=Lib.hid (HK4.out.trans hk5);have s5:=hk5.size;have l5:w.heap.size < w5.heap.size:=(by omega);clear hk5)
      | (go_at_call 20;refine (HRP.out _ HK5.out).mono ?_;rintro e w6 ⟨rfl,rfl⟩)
      | (go_at_call 21;refine (HRG.out _ (HK35.out.trans (by (exact kp)))).mono ?_;rintro e w7 ⟨rfl,hk7⟩;have HK7:=Lib.hid (HK5.out.trans (show Keeps w5 w7 by (exact kp)));clear hk7)
      | fail)
     all_goals (go_ret;exact ⟨rfl,by have hkw:=HK7.out;(exact kp)⟩)
    | true=>
     rw [hg] at HRG
     have hld:=kRight_lead hg
     have hin:v.to < 2 ∨ look M.cs v.to ≠ none:=by
      rcases (leads_iff.1 hld).2 with h2 | ⟨r,q,_⟩
      ·exact .inl h2
      ·exact .inr (by rw [q];simp)
     have hpr:=perm_range2 hp
     have hfa:FitA M:=fun _ _ hl=>hS.fit hl
     have hc0:saveCode M ps.length f v=0:=by unfold saveCode;rw [if_pos hMN,if_pos hb,if_pos hg]
     obtain ⟨bs,hbs⟩:∃ bs,bs=saveB M ps f v:=⟨_,rfl⟩
     have hlen:bs.length ≤ 100000000:=by rw [hbs];exact saveB_len hS.wf hfa hR.few hpr.2 hpr.1 hf hv
     obtain ⟨K,hK⟩:∃ K,K=bs.length:=⟨_,rfl⟩
     have HSV:=Lib.hid (fun (W:World) (hW:Keeps w3 W)=>show Calls Tryz.prog 18 #[.pointer (some ⟨sb,0,none⟩),.pointer (some ⟨ob,0,none⟩),.int .u8 f,.agg #[.int .u8 v.tag,.int .u32 v.to]] W fun r w'=>∃ a4 cap4,r=.returned (.tuple #[.slice a4 K cap4,.int .u8 0]) ∧ BsAt w' a4 bs ∧ Keeps W w' from (save_calls (hS.keeps hW) (hO.keeps hW) f hf v hv).mono fun r w' hh=>by
      rcases hh with ⟨_,x,rfl,hx,hk⟩ | ⟨h2,_⟩
      ·obtain ⟨a4,cap4,rfl,hat⟩:=hx.slice
       rw [← hbs,← hK]
       rw [← hbs] at hat
       exact ⟨a4,cap4,rfl,hat,hk⟩
      ·exact absurd hc0 h2)
     have HDB:=Lib.hid (fun (W:World) (hW:Keeps w3 W)=>show Calls Tryz.prog 23 #[.pointer (some ⟨mb,0,none⟩),.slice a2 N cap2,.int .u8 f,.agg #[.int .u8 v.tag,.int .u32 v.to]] W fun r w'=>∃ a5 cap5,r=.returned (.slice a5 K cap5) ∧ BsAt w' a5 bs ∧ Keeps W w' from by
      have:=refSave_calls (hR.keeps hW) hfa hR.few a2 cap2 ps (fun i x hx=>by obtain ⟨b,off,q1,q2⟩:=HI.out i x hx;exact ⟨b,off,q1,(HK3.out.trans hW).cell q2⟩) hpr.2 hpr.1 f hf v hv hin
      rw [← HN.out] at this
      refine this.mono fun r w' hh=>?_
      obtain ⟨x,rfl,hx,hk⟩:=hh
      obtain ⟨a4,cap4,rfl,hat⟩:=hx.slice
      rw [← hbs] at hat ⊢
      rw [← hK]
      exact ⟨a4,cap4,rfl,hat,hk⟩)
     have HSB:=Lib.hid (fun (W:World) (hW:Keeps w3 W)=>same_both (HB3.out.keeps hW))
     have HS4:=Lib.hid (fun (W:World) (x y:Option Addr) (c1 c2:Nat) (h1:BsAt W x bs) (h2:BsAt W y bs)=>show Calls Tryz.prog 22 #[.slice x K c1,.slice y K c2] W fun e w'=>e=.returned (.bool true) ∧ Keeps W w' from by
      have:=same04_calls x y c1 c2 bs bs W h1 h2 (by omega) (by omega)
      rw [← hK,decide_eq_true rfl] at this
      exact this)
     clear hfail hS hR hO hMN hb hp hg hld hin hpr hfa hc0 hbs hlen hK
     go_wp2_with (first
      | (go_at_call 18;refine (HSV.out _ (by (exact kp))).mono ?_;rintro e w4 ⟨a4,cap4,rfl,hat,hk4⟩;replace z0:=hk4.cell z0;replace z1:=hk4.cell z1;have HA4:=Lib.hid hat;have HK34:=Lib.hid hk4;have HK4:=Lib.hid (HK3.out.trans hk4);have s4:=hk4.size;have l4:w.heap.size < w4.heap.size:=(by omega);clear hk4 hat)
      | (go_at_call 19;refine (HMAY.out _).mono ?_;rintro e w5 ⟨rfl,hk5⟩;replace z0:=hk5.cell z0;replace z1:=hk5.cell z1;have HA5:=Lib.hid (HA4.out.keeps hk5);have HK35:=Lib.hid (HK34.out.trans hk5);have HK5:=Lib.hid (HK4.out.trans hk5);have s5:=hk5.size;have l5:w.heap.size < w5.heap.size:=(by omega);clear hk5 HA4)
      | (go_at_call 20;refine (HRP.out _ HK5.out).mono ?_;rintro e w6 ⟨rfl,rfl⟩)
      | (go_at_call 21;refine (HRG.out _ HK35.out).mono ?_;rintro e w7 ⟨rfl,hk7⟩;replace z0:=hk7.cell z0;replace z1:=hk7.cell z1;have HA7:=Lib.hid (HA5.out.keeps hk7);have HK37:=Lib.hid (HK35.out.trans hk7);have HK7:=Lib.hid (HK5.out.trans hk7);have s7:=hk7.size;have l7:w.heap.size < w7.heap.size:=(by omega);clear hk7 HA5)
      | (go_at_call 23;refine (HDB.out _ HK37.out).mono ?_;rintro e w8 ⟨a8,cap8,rfl,hat,hk8⟩;have HA8:=Lib.hid (HA7.out.keeps hk8);have HB8:=Lib.hid hat;have HK38:=Lib.hid (HK37.out.trans hk8);have HK8:=Lib.hid (HK7.out.trans hk8);clear hk8 hat HA7)
      | (go_at_call 22;refine (HS4.out _ _ _ _ _ HA8.out HB8.out).mono ?_;rintro e w9 ⟨rfl,hk9⟩;have HK39:=Lib.hid (HK38.out.trans hk9);have HK9:=Lib.hid (HK8.out.trans hk9);clear hk9)
      | (go_at_call 24;refine (HSB.out _ HK39.out).mono ?_;rintro e w10 ⟨rfl,hk10⟩;have HK10:=Lib.hid (HK9.out.trans hk10);clear hk10)
      | fail)
     all_goals (go_ret;exact ⟨rfl,HK10.out⟩)
  ·rw [if_neg hn] at HMAY
   have HSV:=Lib.hid (hfail 1 (by unfold saveCode;rw [if_neg (by rw [hMn,← HN.out];exact fun hh=>hn hh.symm)]) (by decide))
   clear hfail hS hR hO hp
   go_wp2_with (first
    | (go_at_call 18;refine (HSV.out _ (by (exact kp))).mono ?_;rintro e w4 ⟨rfl,hk4⟩;replace z0:=hk4.cell z0;replace z1:=hk4.cell z1;have HK4:=Lib.hid (HK3.out.trans hk4);clear hk4)
    | (go_at_call 19;refine (HMAY.out _).mono ?_;rintro e w5 ⟨rfl,hk5⟩;have HK5:=Lib.hid (HK4.out.trans hk5);clear hk5)
    | (go_at_call 20;refine (HRP.out _ HK5.out).mono ?_;rintro e w6 ⟨rfl,rfl⟩)
    | fail)
   all_goals (go_ret;exact ⟨rfl,by have hkw:=HK5.out;(exact kp)⟩)

theorem saveBytes_walk (n:Int) (a1:Option Addr) (l1 cap1:Nat) (rs:List Rec) (a2:Option Addr) (l2 cap2:Nat) (ps:List Int) (f:Int) (v:Edge) (w:World) (_:(Lit.int .i64 n).wf=true) (hrs:IsRecs w a1 l1 rs) (hps:IsInts w a2 l2 ps) (hf:(Lit.int .u8 f).wf=true) (hv:v.ok) :
  Calls Tryz.prog 3 #[.int .i64 n,.slice a1 l1 cap1,.slice a2 l2 cap2,.int .u8 f,.agg #[.int .u8 v.tag,.int .u32 v.to]] w fun e w'=>e=.returned (.bool true) ∧ Keeps w w':=by
 by_cases h:40 < l1 ∨ n < 0 ∨ 16 < n ∨ 20 < l2
 ·exact saveBytes_out n a1 l1 cap1 a2 l2 cap2 f v w h
 ·obtain ⟨rfl,hI,-⟩:=hps
  have hmin:IntKind.u8.min=0:=rfl
  have hmax:IntKind.u8.max=255:=rfl
  have hf2:0 ≤ f ∧ f ≤ 255:=by simp [Lit.wf,hmin,hmax] at hf;exact hf
  exact saveBytes_in n a1 l1 cap1 rs a2 cap2 ps f v w (by omega) (by omega) (by omega) (by omega) hrs hI hf2 hv

set_option maxRecDepth 100000 in
theorem saveBytes_lifted (os:Os) (started:os.Started) (H:Type) (enc:TypeId × Value → H) :
  ReturnsInHanded {} Tryz.checked os 3 .any (Rows.saveBytesSpec.pre6 enc Tryz.prog Tryz.f3 Rows.saveBytesRow.domain false) (Rows.saveBytesSpec.post enc Tryz.prog Tryz.f3 false true false false):=by
 refine returnsInHanded_of_change (C:=Tryz.checked) own started (by kernel_rfl) Tryz.func3
  (ChangeSpec.witness6 (enc:=enc) (C:=Tryz.checked) false ⟨#[],#[.int .i64 0,.slice none 0 0,.slice none 0 0,.int .u8 0,.agg #[.int .u8 0,.int .u32 0]],[]⟩ 12 (by kernel_rfl) (by kernel_rfl) (by kernel_rfl) (by kernel_rfl)) ?_
 intro W base args ds gs before hval0 hW hcnd _
 have hval:∀ (j:Nat) t v,Tryz.f3.params[j]?=some t → args[j]?=some v → Value.okWide Tryz.prog W .any base t v:=hval0
 have hW':=hW
 obtain ⟨p,q,hA0,hV,rfl,hfz,hnd⟩:=hW
 have hA:DataW.TrodAll enc Tryz.prog W 0 (fun _=>true) true Tryz.f3.params.toList args.toList ds p:=hA0
 rw [Tryz.params3] at hA hval
 have hAk:=hA
 obtain ⟨v0,vs0,d0,ds0,p0,q0,hargs,rfl,rfl,h0,r0⟩:=trodAll_cons hA
 obtain ⟨v1,vs1,d1,ds1,p1,q1,rfl,rfl,rfl,h1,r1⟩:=trodAll_cons r0
 obtain ⟨v2,vs2,d2,ds2,p2,q2,rfl,rfl,rfl,h2,r2⟩:=trodAll_cons r1
 obtain ⟨v3,vs3,d3,ds3,p3,q3,rfl,rfl,rfl,h3,r3⟩:=trodAll_cons r2
 obtain ⟨v4,vs4,d4,ds4,p4,q4,rfl,rfl,rfl,h4,r4⟩:=trodAll_cons r3
 obtain ⟨rfl,rfl,rfl⟩:=trodAll_nil r4
 obtain rfl:args=#[v0,v1,v2,v3,v4]:=by cases args;simp_all
 obtain ⟨rfl,rfl⟩:=trodVars_none hV
 obtain ⟨a0,rfl,rfl,rfl,w0⟩:=open_int Tryz.underlying3 (hval 0 3 v0 rfl rfl) h0
 obtain ⟨a1,len1,cap1,rfl⟩:=okWide_slice Tryz.underlying22 (hval 1 22 v1 rfl rfl)
 obtain ⟨rs1,w1⟩:=open_recs h1
 obtain ⟨a2,len2,cap2,rfl⟩:=okWide_slice Tryz.underlying23 (hval 2 23 v2 rfl rfl)
 obtain ⟨rs2,w2⟩:=open_intRow h2
 obtain ⟨a3,rfl,rfl,rfl,w3⟩:=open_int Tryz.underlying5 (hval 3 5 v3 rfl rfl) h3
 obtain ⟨a4,w4,rfl⟩:=open_edge (hval 4 26 v4 rfl rfl) h4
 clear hA0 hval0
 refine (saveBytes_walk a0 a1 len1 cap1 rs1 a2 len2 cap2 rs2 a3 a4 W w0 w1 w2 w3 w4).mono fun e W' ⟨he,bel⟩=>?_
 subst he
 exact ⟨_,rfl,_,_,_,[],_,[],hW',trodAll_mk1 (shut_bool Tryz.underlying4 _),trodAll_below laidOut bel _ _ _ _ (by kernel_rfl) hAk,rfl,Below.frame bel _,fun h=>by cases h⟩

set_option maxHeartbeats 8000000 in
theorem saveBytes_over:Rows.saveBytesRow.holds Tryz.pinned (OpenSpec.ofChange Rows.saveBytesSpec):=
 OpenClaim.holds_of_wide 3 Tryz.f3 rfl rfl rfl rfl rfl rfl rfl ⟨rfl,rfl,rfl,rfl,rfl⟩ rfl rfl rfl rfl rfl (by as_aux_lemma=>kernel_rfl) Tryz.func3 (by unfold joinedFacts;(repeat' with_reducible refine Bool.and_eq_true_iff.2 ⟨?_,?_⟩);all_goals as_aux_lemma=>kernel_rfl)
  (of_decide_eq_true (by as_aux_lemma=>kernel_rfl)) (by unfold Func.isWrapper;first | (rw [if_pos (by decide +kernel)];kernel_rfl) | (rw [if_neg (by decide +kernel)];exact ⟨rfl,rfl⟩))
  (fun os started H enc _=>saveBytes_lifted os started H enc)

theorem saveBytes_proved:Rows.SaveBytesSaid:=saveBytes_over

end Go.Proofs.YtiifimnpmbfihaaGreat
