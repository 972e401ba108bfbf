/-
  meter.may, meter.Weigh over the state.
-/
import Derived.Test.YtpgcbmbnognieaaGreatPScaleF
import Derived.Test.YtpgcbmbnognieaaGreatPSwapQ
namespace Go.Proofs.YtpgcbmbnognieaaGreat
set_option linter.unusedSimpArgs false
set_option linter.unusedVariables false
set_option maxHeartbeats 600000
open Go.RowKit

theorem mmay_calls {F:Nat → Prop} {w:World} {sb:Nat} {M:St} (h:StoreRep F w sb M) (f:Int) (v:Edge) (hv:v.ok) :
  Calls Tryz.prog 66 #[.pointer (some ⟨sb,0,none⟩),.int .u8 f,.agg #[.int .u8 v.tag,.int .u32 v.to]] w fun e w'=>e=.returned (.int .u8 (mayC M f v 0)) ∧ Keeps w w':=by
 have HS:=Lib.hid (fun (W:World) (hW:Keeps w W)=>csize_calls (h.keeps hW) f v 0 hv)
 obtain ⟨c,hc⟩:∃ c,c=mayC M f v 0:=⟨_,rfl⟩
 rw [← hc] at HS ⊢
 clear h hc
 go_enter Tryz.func66,Tryz.ntmps66
 go_wp2_with (first | (go_at_call 53;refine (HS.out _ (by (exact kp))).mono ?_;rintro e w1 ⟨rfl,hk1⟩) | fail)
 all_goals go_ret
 all_goals exact ⟨rfl,by (exact kp)⟩

theorem mayC_zero {M:St} {f:Int} {v:Edge} (h:mayC M f v 0=0):(1 ≤ f ∧ f ≤ 5) ∧ M.leads f v 0=true:=by
 unfold mayC at h
 split at h
 ·cases h
 ·rename_i hb
  split at h
  ·cases h
  ·split at h
   ·cases h
   ·rename_i hl
    refine ⟨?_,by simpa using hl⟩
    have:isFormB f=true:=by simpa using hb
    unfold isFormB at this
    simpa using this

def weighC (M:St) (f:Int) (v:Edge) (l1 l2:Nat):Int:=if mayC M f v 0 ≠ 0 then mayC M f v 0 else if M.n ≠ (l1:Int) ∨ M.n ≠ (l2:Int) then 1 else 0

set_option maxRecDepth 100000 in
theorem weigh_no {F:Nat → Prop} {w:World} {sb:Nat} {M:St} (h:StoreRep F w sb M) (f:Int) (v:Edge) (hv:v.ok) (a b:Option Addr) (l1 c1 l2 c2:Nat) (hc:weighC M f v l1 l2 ≠ 0) (hl:l1 ≤ 1000 ∧ l2 ≤ 1000) :
  Calls Tryz.prog 13 #[.pointer (some ⟨sb,0,none⟩),.int .u8 f,.agg #[.int .u8 v.tag,.int .u32 v.to],.slice a l1 c1,.slice b l2 c2] w fun e w'=>e=.returned (.tuple #[.slice none 0 0,.int .u8 (weighC M f v l1 l2)]) ∧ Keeps w w':=by
 have HM:=Lib.hid (fun (W:World) (hW:Keeps w W)=>mmay_calls (h.keeps hW) f v hv)
 have HV:=Lib.hid (fun (W:World) (hW:Keeps w W)=>store_vars (h.keeps hW))
 have hr:=mayC_range M f v 0
 unfold weighC at hc ⊢
 obtain ⟨hl1,hl2⟩:=hl
 by_cases c0:mayC M f v 0=0
 ·rw [if_neg (by simp [c0])] at hc ⊢
  have hne:M.n ≠ (l1:Int) ∨ M.n ≠ (l2:Int):=by
   by_cases hh:M.n ≠ (l1:Int) ∨ M.n ≠ (l2:Int)
   ·exact hh
   ·rw [if_neg hh] at hc;exact absurd rfl hc
  rw [if_pos hne]
  rw [c0] at HM
  obtain ⟨n,hn⟩:∃ n,n=M.n:=⟨_,rfl⟩
  rw [← hn] at HV hne
  clear h hc hr c0 hn
  by_cases h1:n=(l1:Int)
  ·have h2:((l2:Int) == n)=false:=by
    simp
    rcases hne with h | h
    ·exact absurd h1 h
    ·exact fun e=>h e.symm
   subst h1
   have h1':((l1:Int) == (l1:Int))=true:=by simp
   clear hne
   go_enter Tryz.func13,Tryz.ntmps13
   go_wp2_with (first
    | (go_at_call 66;refine (HM.out _ (by (exact kp))).mono ?_;rintro e w1 ⟨rfl,hk1⟩;have kk1:Keeps w w1:=(by (exact kp)))
    | (go_at_call 67;refine (HV.out _ (by (exact kp))).mono ?_;rintro e w2 ⟨rfl,rfl⟩)
    | fail)
   go_ret2
   exact ⟨rfl,kk1⟩
  ·have h1':((l1:Int) == n)=false:=by
    simp
    exact fun e=>h1 e.symm
   clear hne h1
   go_enter Tryz.func13,Tryz.ntmps13
   go_wp2_with (first
    | (go_at_call 66;refine (HM.out _ (by (exact kp))).mono ?_;rintro e w1 ⟨rfl,hk1⟩;have kk1:Keeps w w1:=(by (exact kp)))
    | (go_at_call 67;refine (HV.out _ (by (exact kp))).mono ?_;rintro e w2 ⟨rfl,rfl⟩)
    | fail)
   go_ret2
   exact ⟨rfl,kk1⟩
 ·rw [if_pos c0]
  obtain ⟨c,hc2⟩:∃ c,c=mayC M f v 0:=⟨_,rfl⟩
  rw [← hc2] at HM c0 hr ⊢
  have g0:(c == 0)=false:=by simp [c0]
  clear h hc hc2 c0
  go_enter Tryz.func13,Tryz.ntmps13
  go_wp2_with (first
   | (go_at_call 66;refine (HM.out _ (by (exact kp))).mono ?_;rintro e w1 ⟨rfl,hk1⟩;have kk1:Keeps w w1:=(by (exact kp)))
   | fail)
  go_ret2
  exact ⟨rfl,kk1⟩

set_option maxRecDepth 100000 in
set_option maxHeartbeats 800000 in
theorem weigh_calls {F:Nat → Prop} {w:World} {sb:Nat} {M:St} (h:StoreRep F w sb M) (f:Int) (v:Edge) (hv:v.ok) (a b:Option Addr) (n c1 c2:Nat) (ls hs:List Int) (hn:M.n=(n:Int)) (h8:n ≤ 8) (hl:ls.length=n) (hh:hs.length=n) (hla:WordsAt w a ls) (hhb:WordsAt w b hs) (hm:mayC M f v 0=0) :
  Calls Tryz.prog 13 #[.pointer (some ⟨sb,0,none⟩),.int .u8 f,.agg #[.int .u8 v.tag,.int .u32 v.to],.slice a n c1,.slice b n c2] w fun e w'=>(∃ x,e=.returned (.tuple #[x,.int .u8 0]) ∧ NatV 0 w' (wE (wtF ls) (wtF hs) M f v 0).toNat x) ∧ Keeps w w':=by
 obtain ⟨hf,hld⟩:=mayC_zero hm
 have HM:=Lib.hid (fun (W:World) (hW:Keeps w W)=>mmay_calls (h.keeps hW) f v hv)
 rw [hm] at HM
 have HV:=Lib.hid (fun (W:World) (hW:Keeps w W)=>store_vars (h.keeps hW))
 rw [hn] at HV
 have hwl:=wE_small (words_ok hla) (words_ok hhb) M f v 0 (by omega)
 have HN0:=Lib.hid (fun (W:World) (hW:Keeps w W)=>by
  have:=numbers_calls a c1 ls W (hla.keeps hW) (by omega)
  rw [hl] at this
  exact this)
 have HN1:=Lib.hid (fun (W:World) (hW:Keeps w W)=>by
  have:=numbers_calls b c2 hs W (hhb.keeps hW) (by omega)
  rw [hh] at this
  exact this)
 have hp8:2 ^ n ≤ 2 ^ 8:=Nat.pow_le_pow_right (by decide) h8
 have hp8':(2:Nat) ^ 8=256:=rfl
 have HE:=Lib.hid (fun (W:World) (cb mb:Nat) (hC:SCtx F (nodeW ls hs M f) cb sb mb n f ls hs M W [])=>sedge_all hf (fun id r hk=>h.fit hk) h.wf n 0 v W [] (by omega) (Nat.zero_le _) hv hld hC (by simp;omega))
 have H:=Lib.hid h
 have HW:=Lib.hid hwl
 have HLL:=Lib.hid (And.intro hl hh)
 have HOK:=Lib.hid (And.intro (words_ok hla) (words_ok hhb))
 have HMN:=Lib.hid hn
 have hmm:=@run_makeMap Tryz.prog
 have hnn:((n:Int) == (n:Int))=true:=by simp
 obtain ⟨V,hVe⟩:∃ V,V=(wE (wtF ls) (wtF hs) M f v 0).toNat:=⟨_,rfl⟩
 have HVE:=Lib.hid hVe
 clear h hwl hl hh hn hla hhb hm hld hf hp8 hp8' hVe
 go_enter Tryz.func13,Tryz.ntmps13
 go_wp2_with (first
  | (go_at_call 66;refine (HM.out _ (by (exact kp))).mono ?_;rintro e w1 ⟨rfl,hk1⟩;have z0:=hk1.cell (a:=⟨w.heap.size,0,none⟩) (v:=.int .u8 v.tag) (by simp [go_sem]);have z1:=hk1.cell (a:=⟨w.heap.size,1,none⟩) (v:=.int .u32 v.to) (by simp [go_sem]);have kk1:Keeps w w1:=(by (exact kp)))
  | (go_at_call 67;refine (HV.out _ (by (exact kp))).mono ?_;rintro e w2 ⟨rfl,rfl⟩)
  | (go_at_call 68;have qq:=HN0;clear qq;refine (HN0.out _ (by (exact kp))).mono ?_;rintro e w3 ⟨⟨A3,rfl,hn3⟩,hk3⟩;have HA3:=Lib.hid hn3;have z0:=hk3.cell z0;have z1:=hk3.cell z1;clear HN0 hn3)
  | (go_at_call 68;refine (HN1.out _ (by (exact kp))).mono ?_;rintro e w4 ⟨⟨A4,rfl,hn4⟩,hk4⟩;have HA4:=Lib.hid hn4;have z0:=hk4.cell z0;have z1:=hk4.cell z1;have hwl4:=lt_of_cell z0;clear hn4)
  | fail)
 have kk4:Keeps w w4:=(kk1.trans hk3).trans hk4
 have hkc:Keeps w4 ((w4.alloc (.map #[] 0)).alloc (.cells #[.pointer (some ⟨sb,0,none⟩),.int .u8 f,.slice A3 n n,.slice A4 n n,.map (some w4.heap.size)] 133)):=((Keeps.refl _).alloc _).alloc _
 have hC:SCtx F (nodeW ls hs M f) (w4.heap.size + 1) sb w4.heap.size n f ls hs M ((w4.alloc (.map #[] 0)).alloc (.cells #[.pointer (some ⟨sb,0,none⟩),.int .u8 f,.slice A3 n n,.slice A4 n n,.map (some w4.heap.size)] 133)) []:=by
  refine ⟨H.out.keeps (kk4.trans hkc),⟨by simp [go_sem],by simp [go_sem],⟨A3,n,by simp [go_sem],(HA3.out.keeps hk4).keeps hkc⟩,⟨A4,n,by simp [go_sem],HA4.out.keeps hkc⟩,by simp [go_sem],HLL.out,h8,HOK.out⟩,⟨.map [],?_,Maps.isMap_empty,fun x=>by simp [Maps.has_eq],fun x hx=>by simp at hx⟩,fun hh=>by have:=H.out.lt _ hh;have:=kk4.size;omega,HMN.out⟩
  have:=(World.ownsMap_made (H:=Value) w4 Tryz.prog 23 heldElem).alloc (.cells #[.pointer (some ⟨sb,0,none⟩),.int .u8 f,.slice A3 n n,.slice A4 n n,.map (some w4.heap.size)] 133)
  simpa using this
 have hcall:=HE.out _ _ _ hC
 rw [show ((0:Nat):Int)=0 from rfl,← HVE.out] at hcall
 have HCALL:=Lib.hid hcall
 have k4c:=kk4.trans hkc
 clear hC hcall
 refine HCALL.out.mono ?_
 rintro e w5 ⟨x,S5,rfl,hx,hc5,-,hu5⟩
 have kk5:Keeps w w5:=k4c.new hu5 (fun k hk=>by have:=kk4.size;omega)
 have hNo:=normV_calls hx (by have:=HW.out.2;rw [← HVE.out] at this;omega)
 have HNO:=Lib.hid hNo
 clear hx hc5 hu5 hNo HCALL
 go_wp2_with (first | (go_at_call 69;refine HNO.out.mono ?_;rintro e w6 ⟨y,rfl,hy,hk6⟩) | fail)
 have hyV:NatV 0 w6 (wE (wtF ls) (wtF hs) M f v 0).toNat y:=by rw [← HVE.out];exact hy.le (Nat.zero_le _)
 go_ret2
 exact ⟨⟨y,rfl,hyV⟩,kk5.trans hk6⟩

set_option maxRecDepth 100000 in
theorem msame_calls (x n:Nat) (w:World) (hx:x < 2 ^ 64) (hn:n ≤ 1000):Calls Tryz.prog 82 #[.int .u64 (x:Int),.int .i64 (n:Int)] w fun e w'=>(∃ a,e=.returned (.slice a n n) ∧ WordsAt w' a (List.replicate n (x:Int))) ∧ Keeps w w':=by
 obtain ⟨j0,hj,jz0,jz1,jz2⟩:=info_parts info_u64
 have hx2:(x:Int) < 18446744073709551616:=by omega
 go_enter Tryz.func82,Tryz.ntmps82
 go_wp2_with (first
  | (at_make;refine wpList_make_full _ rfl _ _ 26 rfl w.heap.size 50 j0 (.int .u64 0) 1 Tryz.underlying26 hj jz0 jz1 .i64 .i64 _ _ n rfl rfl rfl rfl (by rw [jz2];omega) (by unfold maxLen;omega) (by simp) ?_;intro w1 hown1 hg1)
  | fail)
 have HR1:=Lib.hid (rowU_made hown1)
 have hkk:Keeps w w1:=⟨hg1.os,hg1.tape,hg1.output,hg1.size,fun i hi=>hg1.block i hi (by simp)⟩
 clear hown1 hg1
 go_wp2_with fail
 go_loopg [6,11] n (fun gk s6 s11 wr=>∃ (d:Nat) (rs:List Int),s11=.int .i64 (d:Int) ∧ d + gk=n ∧ rs.length=n ∧ (∀ i,i < d → rs[i]?=some (x:Int)) ∧ RowU wr w.heap.size rs ∧ Upd (fun k=>k=w.heap.size) w1 wr)
 case atStart=>exact ⟨0,List.replicate n 0,rfl,by omega,by simp,fun i hi=>by omega,HR1.out,Upd.refl _ _⟩
 case round=>
  obtain ⟨d,rs,rfl,hdg,hrl,hall,hR,hU⟩:=hrel
  have HR:=Lib.hid hR
  have HU:=Lib.hid hU
  have HL:=Lib.hid hrl
  have HA:=Lib.hid hall
  have HD:=Lib.hid hdg
  have hrlt:=HR.out.lt
  clear hR hU hrl hall
  by_cases hd:d < n
  ·have hgk:1 ≤ gk:=by omega
   have q0:(d:Int) < (n:Int):=by omega
   obtain ⟨z,hz⟩:∃ z,rs[d]?=some z:=⟨_,List.getElem?_eq_getElem (by rw [HL.out];exact hd)⟩
   have cz:=HR.out.cell hz
   have cf:=HR.out.frozen d
   clear hz hdg
   go_wp2_with fail
   go_roundg (gk - 1)
   case rel=>exact ⟨d + 1,rs.set d (x:Int),congrArg (Value.int .i64) (by omega),by have:=HD.out;omega,by rw [List.length_set,HL.out],fun i hi=>by
    by_cases hid:i=d
    ·subst hid;rw [List.getElem?_set_self (by rw [HL.out];exact hd)]
    ·rw [List.getElem?_set_ne (fun e=>hid e.symm)];exact HA.out i (by omega),HR.out.set d _ (by rw [HL.out];exact hd),HU.out.setCell (Or.inl rfl) _⟩
   case measure=>omega
  ·have q0:¬ (d:Int) < (n:Int):=by omega
   have hrs:rs=List.replicate n (x:Int):=by
    refine List.ext_getElem? (fun i=>?_)
    by_cases hi:i < n
    ·rw [HA.out i (by omega),List.getElem?_replicate,if_pos hi]
    ·rw [List.getElem?_eq_none (by rw [HL.out];omega),List.getElem?_eq_none (by simp;omega)]
   have HW:Hid (WordsAt wr (some ⟨w.heap.size,0,none⟩) (List.replicate n (x:Int))):=Lib.hid (by
    rw [← hrs]
    exact HR.out.words (fun y hy=>by rw [hrs] at hy;rw [List.eq_of_mem_replicate hy];exact ⟨by omega,hx2⟩))
   clear hrs hdg
   go_wp2_with fail
   go_ret
   exact ⟨⟨_,rfl,HW.out⟩,hkk.new HU.out (fun k hk=>by omega)⟩

theorem wtF_rep (n:Nat) (x:Int) {k:Nat} (h:k < n):wtF (List.replicate n x) k=x:=wtF_at (by rw [List.getElem?_replicate,if_pos h])

theorem wX_wts {lo hi lo' hi':Nat → Int} {g:Int → Bool} {n:Nat}:∀ (k m:Nat) (x:Int),m + k ≤ n → (∀ j,j < n → lo j=lo' j ∧ hi j=hi' j) → wX lo hi g k m x=wX lo' hi' g k m x:=by
 intro k
 induction k with
 | zero=>intro m x _ _;rfl
 | succ k ih=>
  intro m x hm hj
  show lo m * wX lo hi g k (m + 1) x + hi m * wX lo hi g k (m + 1) (x + 2 ^ m)=lo' m * wX lo' hi' g k (m + 1) x + hi' m * wX lo' hi' g k (m + 1) (x + 2 ^ m)
  rw [ih (m + 1) x (by omega) hj,ih (m + 1) (x + 2 ^ m) (by omega) hj,(hj m (by omega)).1,(hj m (by omega)).2]

theorem wE_rep {M:St} {n:Nat} (hn:M.n=(n:Int)) (f:Int) (v:Edge) (x y:Int):wE (wtF (List.replicate n x)) (wtF (List.replicate n y)) M f v 0=sumW (fun _=>x) (fun _=>y) 0 n (tabE M f v 0) (2 ^ n):=by
 have h:=wE_sum (fun _=>x) (fun _=>y) M (by omega) f v
 rw [show M.n.toNat=n by omega] at h
 rw [h]
 unfold wE
 exact wX_wts _ _ _ (by rw [hn];simp) (fun j hj=>⟨wtF_rep n x hj,wtF_rep n y hj⟩)

set_option maxRecDepth 100000 in
theorem mcount_calls {F:Nat → Prop} {w:World} {sb:Nat} {M:St} (h:StoreRep F w sb M) (f:Int) (v:Edge) (hv:v.ok) (n:Nat) (hn:M.n=(n:Int)) (h8:n ≤ 8) (hm:mayC M f v 0=0) :
  Calls Tryz.prog 19 #[.pointer (some ⟨sb,0,none⟩),.int .u8 f,.agg #[.int .u8 v.tag,.int .u32 v.to]] w fun e w'=>(∃ x,e=.returned (.tuple #[x,.int .u8 0]) ∧ NatV 0 w' (cntL (tabE M f v 0) (2 ^ n)) x) ∧ Keeps w w':=by
 have hval:(wE (wtF (List.replicate n (1:Int))) (wtF (List.replicate n (1:Int))) M f v 0).toNat=cntL (tabE M f v 0) (2 ^ n):=by
  rw [wE_rep hn,← cntL_sum,Int.toNat_natCast]
 have HV:=Lib.hid (fun (W:World) (hW:Keeps w W)=>store_vars (h.keeps hW))
 rw [hn] at HV
 have HW:=Lib.hid (fun (W:World) (hW:Keeps w W) (a:Option Addr) (ha:WordsAt W a (List.replicate n (1:Int)))=>by
  have q:=weigh_calls (h.keeps hW) f v hv a a n n n (List.replicate n 1) (List.replicate n 1) hn h8 (by simp) (by simp) ha ha hm
  rw [hval] at q
  exact q)
 have HS:=Lib.hid (fun (W:World)=>msame_calls 1 n W (by decide) (by omega))
 clear h hval hm hn
 go_enter Tryz.func19,Tryz.ntmps19
 go_wp2_with (first
  | (go_at_call 67;refine (HV.out _ (by (exact kp))).mono ?_;rintro e w1 ⟨rfl,rfl⟩)
  | (go_at_call 82;refine (HS.out _).mono ?_;rintro e w2 ⟨⟨a2,rfl,hw2⟩,hk2⟩;have z0:=hk2.cell (a:=⟨w.heap.size,0,none⟩) (v:=.int .u8 v.tag) (by simp [go_sem]);have z1:=hk2.cell (a:=⟨w.heap.size,1,none⟩) (v:=.int .u32 v.to) (by simp [go_sem]);have hwl2:=lt_of_cell z0;have HW2:=Lib.hid hw2;have kk2:Keeps w w2:=(by (exact kp));clear hw2)
  | (go_at_call 13;refine (HW.out _ (by (exact kp)) a2 HW2.out).mono ?_;rintro e w3 ⟨⟨x,rfl,hx⟩,hk3⟩)
  | fail)
 go_ret2
 exact ⟨⟨x,rfl,hx⟩,kk2.trans hk3⟩

theorem mcount_no {F:Nat → Prop} {w:World} {sb:Nat} {M:St} (h:StoreRep F w sb M) (f:Int) (v:Edge) (hv:v.ok) (n:Nat) (hn:M.n=(n:Int)) (h8:n ≤ 8) (c:Int) (hm:mayC M f v 0=c) (hc:c ≠ 0) :
  Calls Tryz.prog 19 #[.pointer (some ⟨sb,0,none⟩),.int .u8 f,.agg #[.int .u8 v.tag,.int .u32 v.to]] w fun e w'=>e=.returned (.tuple #[.slice none 0 0,.int .u8 c]) ∧ Keeps w w':=by
 have hwc:weighC M f v n n=c:=by unfold weighC;rw [if_pos (by rw [hm];exact hc),hm]
 have HV:=Lib.hid (fun (W:World) (hW:Keeps w W)=>store_vars (h.keeps hW))
 rw [hn] at HV
 have HW:=Lib.hid (fun (W:World) (hW:Keeps w W) (a:Option Addr)=>by
  have q:=weigh_no (h.keeps hW) f v hv a a n n n n (by rw [hwc];exact hc) (by omega)
  rw [hwc] at q
  exact q)
 have HS:=Lib.hid (fun (W:World)=>msame_calls 1 n W (by decide) (by omega))
 clear h hm hn hwc hc
 go_enter Tryz.func19,Tryz.ntmps19
 go_wp2_with (first
  | (go_at_call 67;refine (HV.out _ (by (exact kp))).mono ?_;rintro e w1 ⟨rfl,rfl⟩)
  | (go_at_call 82;refine (HS.out _).mono ?_;rintro e w2 ⟨⟨a2,rfl,hw2⟩,hk2⟩;have z0:=hk2.cell (a:=⟨w.heap.size,0,none⟩) (v:=.int .u8 v.tag) (by simp [go_sem]);have z1:=hk2.cell (a:=⟨w.heap.size,1,none⟩) (v:=.int .u32 v.to) (by simp [go_sem]);have hwl2:=lt_of_cell z0;have kk2:Keeps w w2:=(by (exact kp));clear hw2)
  | (go_at_call 13;refine (HW.out _ (by (exact kp)) a2).mono ?_;rintro e w3 ⟨rfl,hk3⟩)
  | fail)
 go_ret2
 exact ⟨rfl,kk2.trans hk3⟩

end Go.Proofs.YtpgcbmbnognieaaGreat
