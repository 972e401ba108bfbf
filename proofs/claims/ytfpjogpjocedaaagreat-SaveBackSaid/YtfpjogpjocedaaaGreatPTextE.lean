/-
  Plainly: what has been read so far, number by number, node by node.
-/
import Derived.Test.YtfpjogpjocedaaaGreatPSaveE
import Derived.Test.YtfpjogpjocedaaaGreatPTwoA
import Derived.Test.YtfpjogpjocedaaaGreatPUnfA
import Derived.Test.YtfpjogpjocedaaaGreatPWireD
namespace Go.Proofs.YtfpjogpjocedaaaGreat
set_option linter.unusedSimpArgs false
set_option linter.unusedVariables false
set_option maxHeartbeats 600000

structure NumsAt (v:Nat) (rd0:Option (List Int)) (d:Nat) (pre:List Int) (rd:Option (List Int)):Prop where
 le:d ≤ v
 len:pre.length=d
 all:pre ++ (numsR (v - d) rd).1=(numsR v rd0).1
 rest:(numsR (v - d) rd).2=(numsR v rd0).2

theorem NumsAt.start (v:Nat) (rd0:Option (List Int)):NumsAt v rd0 0 [] rd0:=⟨Nat.zero_le _,rfl,rfl,rfl⟩

theorem NumsAt.next {v:Nat} {rd0:Option (List Int)} {d:Nat} {pre:List Int} {rd:Option (List Int)} (h:NumsAt v rd0 d pre rd) (hd:d < v):NumsAt v rd0 (d + 1) (pre ++ [((numR 16 rd).1:Int)]) (numR 16 rd).2:=by
 have e:v - d=(v - (d + 1)) + 1:=by omega
 have h1:=h.all
 have h2:=h.rest
 rw [e] at h1 h2
 exact ⟨by omega,by rw [List.length_append,h.len];rfl,by rw [List.append_assoc];exact h1,h2⟩

theorem NumsAt.end {v:Nat} {rd0:Option (List Int)} {pre:List Int} {rd:Option (List Int)} (h:NumsAt v rd0 v pre rd):pre=(numsR v rd0).1 ∧ rd=(numsR v rd0).2:=by
 have h1:=h.all
 have h2:=h.rest
 rw [Nat.sub_self] at h1 h2
 exact ⟨by rw [← h1];exact (List.append_nil pre).symm,h2⟩

structure RecsAt (f:Int) (k:Nat) (rd0:Option (List Int)) (d:Nat) (pre:List Rec) (rd:Option (List Int)):Prop where
 le:d ≤ k
 len:pre.length=d
 all:pre ++ (recsR f (k - d) d rd).1=(recsR f k 0 rd0).1
 rest:(recsR f (k - d) d rd).2=(recsR f k 0 rd0).2

theorem RecsAt.start (f:Int) (k:Nat) (rd0:Option (List Int)):RecsAt f k rd0 0 [] rd0:=⟨Nat.zero_le _,rfl,rfl,rfl⟩

theorem RecsAt.next {f:Int} {k:Nat} {rd0:Option (List Int)} {d:Nat} {pre:List Rec} {rd:Option (List Int)} (h:RecsAt f k rd0 d pre rd) (hd:d < k):RecsAt f k rd0 (d + 1) (pre ++ [(recR f d rd).1]) (recR f d rd).2:=by
 have e:k - d=(k - (d + 1)) + 1:=by omega
 have h1:=h.all
 have h2:=h.rest
 rw [e] at h1 h2
 exact ⟨by omega,by rw [List.length_append,h.len];rfl,by rw [List.append_assoc];exact h1,h2⟩

theorem RecsAt.end {f:Int} {k:Nat} {rd0:Option (List Int)} {pre:List Rec} {rd:Option (List Int)} (h:RecsAt f k rd0 k pre rd):pre=(recsR f k 0 rd0).1 ∧ rd=(recsR f k 0 rd0).2:=by
 have h1:=h.all
 have h2:=h.rest
 rw [Nat.sub_self] at h1 h2
 exact ⟨by rw [← h1];exact (List.append_nil pre).symm,h2⟩

theorem RecsAt.bad {f:Int} {k:Nat} {rd0:Option (List Int)} {d:Nat} {pre:List Rec} (h:RecsAt f k rd0 d pre none):(recsR f k 0 rd0).2=none:=by
 rw [← h.rest,recsR_none]

theorem readB_eq (b:List Int):readB b=if (edgeR ((numR 5 (numR 16 (some b)).2).1:Int) (numR b.length (numsR (numR 16 (some b)).1 (numR 5 (numR 16 (some b)).2).2).2).1 (recsR ((numR 5 (numR 16 (some b)).2).1:Int) (numR b.length (numsR (numR 16 (some b)).1 (numR 5 (numR 16 (some b)).2).2).2).1 0 (numR b.length (numsR (numR 16 (some b)).1 (numR 5 (numR 16 (some b)).2).2).2).2).2).2=some [] ∧ 1 ≤ (numR 5 (numR 16 (some b)).2).1 then some ⟨(numR 16 (some b)).1,(numR 5 (numR 16 (some b)).2).1,(numsR (numR 16 (some b)).1 (numR 5 (numR 16 (some b)).2).2).1,(recsR ((numR 5 (numR 16 (some b)).2).1:Int) (numR b.length (numsR (numR 16 (some b)).1 (numR 5 (numR 16 (some b)).2).2).2).1 0 (numR b.length (numsR (numR 16 (some b)).1 (numR 5 (numR 16 (some b)).2).2).2).2).1,(edgeR ((numR 5 (numR 16 (some b)).2).1:Int) (numR b.length (numsR (numR 16 (some b)).1 (numR 5 (numR 16 (some b)).2).2).2).1 (recsR ((numR 5 (numR 16 (some b)).2).1:Int) (numR b.length (numsR (numR 16 (some b)).1 (numR 5 (numR 16 (some b)).2).2).2).1 0 (numR b.length (numsR (numR 16 (some b)).1 (numR 5 (numR 16 (some b)).2).2).2).2).2).1⟩ else none:=rfl

open Go.RowKit

noncomputable def kRight (M:St) (f:Int) (e:Edge) (l:Int):Bool:=
 if f=1 then M.leads 1 e l else if f=2 then M.leads 2 e l else if f=3 then rightL M 3 e l else if f=4 then rightL M 4 e l else if f=5 then rightL M 5 e l else false

set_option maxRecDepth 100000 in
theorem bdd_right {F:Nat → Prop} {w:World} {sb:Nat} {M:St} (h:StoreRep F w sb M) (v:Edge) (l:Int) (hv:v.ok) :
  Calls Tryz.prog 99 #[.pointer (some ⟨sb,0,none⟩),.agg #[.int .u8 v.tag,.int .u32 v.to],.int .i64 l] w fun r w'=>r=.returned (.bool (M.leads 1 v l)) ∧ Keeps w w':=by
 have HL:=Lib.hid (fun (W:World) (hW:Keeps w W)=>store_leads (h.keeps hW) 1 v l hv)
 clear h
 obtain ⟨b,hb⟩:∃ b,b=M.leads 1 v l:=⟨_,rfl⟩
 rw [← hb] at HL ⊢
 clear hb
 go_enter Tryz.func99,Tryz.ntmps99
 go_wp2_with fail
 refine (HL.out _ (by (exact kp))).mono ?_
 rintro e w1 ⟨rfl,hk⟩
 go_wp2_with fail
 go_ret
 exact ⟨rfl,by (exact kp)⟩

set_option maxRecDepth 100000 in
theorem zdd_right {F:Nat → Prop} {w:World} {sb:Nat} {M:St} (h:StoreRep F w sb M) (v:Edge) (l:Int) (hv:v.ok) :
  Calls Tryz.prog 100 #[.pointer (some ⟨sb,0,none⟩),.agg #[.int .u8 v.tag,.int .u32 v.to],.int .i64 l] w fun r w'=>r=.returned (.bool (M.leads 2 v l)) ∧ Keeps w w':=by
 have HL:=Lib.hid (fun (W:World) (hW:Keeps w W)=>store_leads (h.keeps hW) 2 v l hv)
 clear h
 obtain ⟨b,hb⟩:∃ b,b=M.leads 2 v l:=⟨_,rfl⟩
 rw [← hb] at HL ⊢
 clear hb
 go_enter Tryz.func100,Tryz.ntmps100
 go_wp2_with fail
 refine (HL.out _ (by (exact kp))).mono ?_
 rintro e w1 ⟨rfl,hk⟩
 go_wp2_with fail
 go_ret
 exact ⟨rfl,by (exact kp)⟩

set_option maxRecDepth 100000 in
theorem kright_b (sb:Nat) (l:Int) (b:Bool) (v:Edge) (w:World)
  (hf:∀ W,Keeps w W → Calls Tryz.prog 99 #[.pointer (some ⟨sb,0,none⟩),.agg #[.int .u8 v.tag,.int .u32 v.to],.int .i64 l] W fun e w'=>e=.returned (.bool b) ∧ Keeps W w') :
  Calls Tryz.prog 62 #[.pointer (some ⟨sb,0,none⟩),.int .u8 1,.agg #[.int .u8 v.tag,.int .u32 v.to],.int .i64 l] w fun e w'=>e=.returned (.bool b) ∧ Keeps w w':=by
 have HF:=Lib.hid hf
 clear hf
 go_enter Tryz.func62,Tryz.ntmps62
 go_wp2_with fail
 refine (HF.out _ (by (exact kp))).mono ?_
 rintro e w1 ⟨rfl,hk⟩
 go_wp2_with fail
 go_ret
 exact ⟨rfl,by (exact kp)⟩

set_option maxRecDepth 100000 in
theorem kright_z (sb:Nat) (l:Int) (b:Bool) (v:Edge) (w:World)
  (hf:∀ W,Keeps w W → Calls Tryz.prog 100 #[.pointer (some ⟨sb,0,none⟩),.agg #[.int .u8 v.tag,.int .u32 v.to],.int .i64 l] W fun e w'=>e=.returned (.bool b) ∧ Keeps W w') :
  Calls Tryz.prog 62 #[.pointer (some ⟨sb,0,none⟩),.int .u8 2,.agg #[.int .u8 v.tag,.int .u32 v.to],.int .i64 l] w fun e w'=>e=.returned (.bool b) ∧ Keeps w w':=by
 have HF:=Lib.hid hf
 clear hf
 go_enter Tryz.func62,Tryz.ntmps62
 go_wp2_with fail
 refine (HF.out _ (by (exact kp))).mono ?_
 rintro e w1 ⟨rfl,hk⟩
 go_wp2_with fail
 go_ret
 exact ⟨rfl,by (exact kp)⟩

set_option maxRecDepth 100000 in
theorem kright_c (sb:Nat) (l:Int) (b:Bool) (v:Edge) (w:World)
  (hf:∀ W,Keeps w W → Calls Tryz.prog 101 #[.pointer (some ⟨sb,0,none⟩),.agg #[.int .u8 v.tag,.int .u32 v.to],.int .i64 l] W fun e w'=>e=.returned (.bool b) ∧ Keeps W w') :
  Calls Tryz.prog 62 #[.pointer (some ⟨sb,0,none⟩),.int .u8 3,.agg #[.int .u8 v.tag,.int .u32 v.to],.int .i64 l] w fun e w'=>e=.returned (.bool b) ∧ Keeps w w':=by
 have HF:=Lib.hid hf
 clear hf
 go_enter Tryz.func62,Tryz.ntmps62
 go_wp2_with fail
 refine (HF.out _ (by (exact kp))).mono ?_
 rintro e w1 ⟨rfl,hk⟩
 go_wp2_with fail
 go_ret
 exact ⟨rfl,by (exact kp)⟩

set_option maxRecDepth 100000 in
theorem kright_q (sb:Nat) (l:Int) (b:Bool) (v:Edge) (w:World)
  (hf:∀ W,Keeps w W → Calls Tryz.prog 102 #[.pointer (some ⟨sb,0,none⟩),.agg #[.int .u8 v.tag,.int .u32 v.to],.int .i64 l] W fun e w'=>e=.returned (.bool b) ∧ Keeps W w') :
  Calls Tryz.prog 62 #[.pointer (some ⟨sb,0,none⟩),.int .u8 4,.agg #[.int .u8 v.tag,.int .u32 v.to],.int .i64 l] w fun e w'=>e=.returned (.bool b) ∧ Keeps w w':=by
 have HF:=Lib.hid hf
 clear hf
 go_enter Tryz.func62,Tryz.ntmps62
 go_wp2_with fail
 refine (HF.out _ (by (exact kp))).mono ?_
 rintro e w1 ⟨rfl,hk⟩
 go_wp2_with fail
 go_ret
 exact ⟨rfl,by (exact kp)⟩

set_option maxRecDepth 100000 in
theorem kright_t (sb:Nat) (l:Int) (b:Bool) (v:Edge) (w:World)
  (hf:∀ W,Keeps w W → Calls Tryz.prog 103 #[.pointer (some ⟨sb,0,none⟩),.agg #[.int .u8 v.tag,.int .u32 v.to],.int .i64 l] W fun e w'=>e=.returned (.bool b) ∧ Keeps W w') :
  Calls Tryz.prog 62 #[.pointer (some ⟨sb,0,none⟩),.int .u8 5,.agg #[.int .u8 v.tag,.int .u32 v.to],.int .i64 l] w fun e w'=>e=.returned (.bool b) ∧ Keeps w w':=by
 have HF:=Lib.hid hf
 clear hf
 go_enter Tryz.func62,Tryz.ntmps62
 go_wp2_with fail
 refine (HF.out _ (by (exact kp))).mono ?_
 rintro e w1 ⟨rfl,hk⟩
 go_wp2_with fail
 go_ret
 exact ⟨rfl,by (exact kp)⟩

set_option maxRecDepth 100000 in
theorem kright_no (sb:Nat) (f l:Int) (v:Edge) (w:World) (h1:f ≠ 1) (h2:f ≠ 2) (h3:f ≠ 3) (h4:f ≠ 4) (h5:f ≠ 5) :
  Calls Tryz.prog 62 #[.pointer (some ⟨sb,0,none⟩),.int .u8 f,.agg #[.int .u8 v.tag,.int .u32 v.to],.int .i64 l] w fun e w'=>e=.returned (.bool false) ∧ Keeps w w':=by
 have g1:(f == 1)=false:=by simp [h1]
 have g2:(f == 2)=false:=by simp [h2]
 have g3:(f == 3)=false:=by simp [h3]
 have g4:(f == 4)=false:=by simp [h4]
 have g5:(f == 5)=false:=by simp [h5]
 clear h1 h2 h3 h4 h5
 go_enter Tryz.func62,Tryz.ntmps62
 go_wp2
 go_ret
 exact ⟨rfl,by (exact kp)⟩

theorem canon_right {F:Nat → Prop} {w:World} {sb:Nat} {M:St} (h:StoreRep F w sb M) (f:Int) (e:Edge) (l:Int) (he:e.ok) :
  Calls Tryz.prog 62 #[.pointer (some ⟨sb,0,none⟩),.int .u8 f,.agg #[.int .u8 e.tag,.int .u32 e.to],.int .i64 l] w fun r w'=>r=.returned (.bool (kRight M f e l)) ∧ Keeps w w':=by
 by_cases f1:f=1
 ·subst f1
  exact kright_b sb l _ e w (fun W hW=>bdd_right (h.keeps hW) e l he)
 by_cases f2:f=2
 ·subst f2
  exact kright_z sb l _ e w (fun W hW=>zdd_right (h.keeps hW) e l he)
 by_cases f3:f=3
 ·subst f3
  exact kright_c sb l _ e w (fun W hW=>cbdd_right (h.keeps hW) e l he)
 by_cases f4:f=4
 ·subst f4
  exact kright_q sb l _ e w (fun W hW=>czdd_right (h.keeps hW) e l he)
 by_cases f5:f=5
 ·subst f5
  exact kright_t sb l _ e w (fun W hW=>tbdd_right (h.keeps hW) e l he)
 have e1:kRight M f e l=false:=by unfold kRight;rw [if_neg f1,if_neg f2,if_neg f3,if_neg f4,if_neg f5]
 rw [e1]
 exact kright_no sb f l e w f1 f2 f3 f4 f5

theorem read_end {bs:List Int} {n0 f0 k0 i:Nat} {rd0 rd1 rd rd2 rdi rd9:Option (List Int)} {pre:List Int} {pr:List Rec} {e9:Edge} (h0:(n0,rd0)=numR 16 (some bs)) (h1:(f0,rd1)=numR 5 rd0) (h2:pre=(numsR n0 rd1).1) (h3:rd=(numsR n0 rd1).2) (h4:(k0,rd2)=numR bs.length rd)
  (hA:RecsAt (f0:Int) k0 rd2 i pr rdi) (hx:i=k0 ∨ rdi=none) (h9:(e9,rd9)=edgeR (f0:Int) k0 rdi) :
  (readB bs=if rd9=some [] ∧ 1 ≤ f0 then some ⟨n0,f0,pre,pr,e9⟩ else none) ∧ (rd9=some [] → pr.length=k0):=by
 have hb:=readB_eq bs
 rw [← h0] at hb
 simp only [] at hb
 rw [← h1] at hb
 simp only [] at hb
 rw [← h2,← h3,← h4] at hb
 simp only [] at hb
 rcases hx with rfl | rfl
 ·obtain ⟨a,b⟩:=hA.end
  rw [← a,← b,← h9] at hb
  exact ⟨hb,fun _=>hA.len⟩
 ·have hn:=hA.bad
  rw [hn,edgeR_none] at hb
  rw [edgeR_none] at h9
  cases h9
  simp only [] at hb
  refine ⟨?_,fun h=>by cases h⟩
  rw [hb,if_neg (fun h=>by cases h.1),if_neg (fun h=>by cases h.1)]

theorem read_fin {bs:List Int} {rd9:Option (List Int)} {f0:Nat} {T0:Txt} {P:Txt → Prop} (h:readB bs=if rd9=some [] ∧ 1 ≤ f0 then some T0 else none) (hf:T0.form=f0) (ok:Bool) (hok:ok=true ↔ (rd9=some [] ∧ isFormB (f0:Int)=true)) (hP:rd9=some [] → P T0) :
  (ok=true ↔ ∃ T,readB bs=some T ∧ isFormB (T.form:Int)=true) ∧ ∀ T,readB bs=some T → P T:=by
 have hff:isFormB (f0:Int)=true → 1 ≤ f0:=fun hb=>by
  unfold isFormB at hb
  simp at hb
  omega
 by_cases hc:rd9=some [] ∧ 1 ≤ f0
 ·rw [if_pos hc] at h
  refine ⟨?_,fun T hT=>?_⟩
  ·rw [hok]
   constructor
   ·rintro ⟨_,b⟩
    exact ⟨T0,h,by rw [hf];exact b⟩
   ·rintro ⟨T,h1,h2⟩
    rw [h] at h1
    cases h1
    rw [hf] at h2
    exact ⟨hc.1,h2⟩
  ·rw [h] at hT
   cases hT
   exact hP hc.1
 ·rw [if_neg hc] at h
  refine ⟨?_,fun T hT=>by rw [h] at hT;cases hT⟩
  rw [hok]
  constructor
  ·rintro ⟨a,b⟩
   exact absurd ⟨a,hff b⟩ hc
  ·rintro ⟨T,h1,_⟩
   rw [h] at h1
   cases h1

def termK (f:Int) (k:Nat) (ts:List Bool) (l:Int):ByteArray:=
 if f=1 then termB k ts l else if f=2 then termZ k ts l else if f=3 then termC (k + 1) k ts l else if f=4 then termQ (k + 1) k ts l else termT (k + 1) k ts l

theorem form_cases {f:Int} (hf:1 ≤ f ∧ f ≤ 5):f=1 ∨ f=2 ∨ f=3 ∨ f=4 ∨ f=5:=by omega

theorem twoK {f:Int} {M:St} (hw:M.wf) (hf:1 ≤ f ∧ f ≤ 5) {k:Nat} {ts:List Bool} {l:Int} {e:Edge} (h:IsT f M k ts l e) (hl:l + (k:Nat)=M.n) (h0:0 ≤ l) (m:Nat) (hm:k ≤ m):unfS f M (m + 1) e=termK f k ts l:=by
 rcases form_cases hf with rfl | rfl | rfl | rfl | rfl
 ·exact two1 hw k ts l e h m hm
 ·exact two2 k ts l e h m hm
 ·exact two3 hw k ts l e h hl m k hm (Nat.le_refl _)
 ·exact two4 hw k ts l e h hl m k hm (Nat.le_refl _)
 ·exact two5 hw k ts l e h hl h0 m k hm (Nat.le_refl _)

set_option maxRecDepth 100000 in
theorem kunf_B (sb:Nat) (e:Edge) (d:Int) (x:ByteArray) (w:World) (hc:∀ W,Keeps w W → Calls Tryz.prog 107 #[.pointer (some ⟨sb,0,none⟩),.agg #[.int .u8 e.tag,.int .u32 e.to],.int .i64 d] W fun r w'=>r=.returned (.string x) ∧ Keeps W w') :
  Calls Tryz.prog 64 #[.pointer (some ⟨sb,0,none⟩),.int .u8 1,.agg #[.int .u8 e.tag,.int .u32 e.to],.int .i64 d] w fun r w'=>r=.returned (.string x) ∧ Keeps w w':=by
 have H:=Lib.hid hc
 clear hc
 go_enter Tryz.func64,Tryz.ntmps64
 go_wp2_with (first | (go_at_call 107;refine (H.out _ (by (exact kp))).mono ?_;rintro r w1 ⟨rfl,hk⟩) | fail)
 go_ret
 exact ⟨rfl,by (exact kp)⟩

set_option maxRecDepth 100000 in
theorem kterm_B (B off p cap:Nat) (l:Int) (x:ByteArray) (w:World) (hc:∀ W,Keeps w W → Calls Tryz.prog 112 #[.slice (some ⟨B,off,none⟩) p cap,.int .i64 l] W fun r w'=>r=.returned (.string x) ∧ Keeps W w') :
  Calls Tryz.prog 66 #[.int .u8 1,.slice (some ⟨B,off,none⟩) p cap,.int .i64 l] w fun r w'=>r=.returned (.string x) ∧ Keeps w w':=by
 have H:=Lib.hid hc
 clear hc
 go_enter Tryz.func66,Tryz.ntmps66
 go_wp2_with (first | (go_at_call 112;refine (H.out _ (by (exact kp))).mono ?_;rintro r w1 ⟨rfl,hk⟩) | fail)
 go_ret
 exact ⟨rfl,by (exact kp)⟩

set_option maxRecDepth 100000 in
theorem kunf_Z (sb:Nat) (e:Edge) (d:Int) (x:ByteArray) (w:World) (hc:∀ W,Keeps w W → Calls Tryz.prog 108 #[.pointer (some ⟨sb,0,none⟩),.agg #[.int .u8 e.tag,.int .u32 e.to],.int .i64 d] W fun r w'=>r=.returned (.string x) ∧ Keeps W w') :
  Calls Tryz.prog 64 #[.pointer (some ⟨sb,0,none⟩),.int .u8 2,.agg #[.int .u8 e.tag,.int .u32 e.to],.int .i64 d] w fun r w'=>r=.returned (.string x) ∧ Keeps w w':=by
 have H:=Lib.hid hc
 clear hc
 go_enter Tryz.func64,Tryz.ntmps64
 go_wp2_with (first | (go_at_call 108;refine (H.out _ (by (exact kp))).mono ?_;rintro r w1 ⟨rfl,hk⟩) | fail)
 go_ret
 exact ⟨rfl,by (exact kp)⟩

set_option maxRecDepth 100000 in
theorem kterm_Z (B off p cap:Nat) (l:Int) (x:ByteArray) (w:World) (hc:∀ W,Keeps w W → Calls Tryz.prog 113 #[.slice (some ⟨B,off,none⟩) p cap,.int .i64 l] W fun r w'=>r=.returned (.string x) ∧ Keeps W w') :
  Calls Tryz.prog 66 #[.int .u8 2,.slice (some ⟨B,off,none⟩) p cap,.int .i64 l] w fun r w'=>r=.returned (.string x) ∧ Keeps w w':=by
 have H:=Lib.hid hc
 clear hc
 go_enter Tryz.func66,Tryz.ntmps66
 go_wp2_with (first | (go_at_call 113;refine (H.out _ (by (exact kp))).mono ?_;rintro r w1 ⟨rfl,hk⟩) | fail)
 go_ret
 exact ⟨rfl,by (exact kp)⟩

set_option maxRecDepth 100000 in
theorem kunf_C (sb:Nat) (e:Edge) (d:Int) (x:ByteArray) (w:World) (hc:∀ W,Keeps w W → Calls Tryz.prog 109 #[.pointer (some ⟨sb,0,none⟩),.agg #[.int .u8 e.tag,.int .u32 e.to],.int .i64 d] W fun r w'=>r=.returned (.string x) ∧ Keeps W w') :
  Calls Tryz.prog 64 #[.pointer (some ⟨sb,0,none⟩),.int .u8 3,.agg #[.int .u8 e.tag,.int .u32 e.to],.int .i64 d] w fun r w'=>r=.returned (.string x) ∧ Keeps w w':=by
 have H:=Lib.hid hc
 clear hc
 go_enter Tryz.func64,Tryz.ntmps64
 go_wp2_with (first | (go_at_call 109;refine (H.out _ (by (exact kp))).mono ?_;rintro r w1 ⟨rfl,hk⟩) | fail)
 go_ret
 exact ⟨rfl,by (exact kp)⟩

set_option maxRecDepth 100000 in
theorem kterm_C (B off p cap:Nat) (l:Int) (x:ByteArray) (w:World) (hc:∀ W,Keeps w W → Calls Tryz.prog 114 #[.slice (some ⟨B,off,none⟩) p cap,.int .i64 l] W fun r w'=>r=.returned (.string x) ∧ Keeps W w') :
  Calls Tryz.prog 66 #[.int .u8 3,.slice (some ⟨B,off,none⟩) p cap,.int .i64 l] w fun r w'=>r=.returned (.string x) ∧ Keeps w w':=by
 have H:=Lib.hid hc
 clear hc
 go_enter Tryz.func66,Tryz.ntmps66
 go_wp2_with (first | (go_at_call 114;refine (H.out _ (by (exact kp))).mono ?_;rintro r w1 ⟨rfl,hk⟩) | fail)
 go_ret
 exact ⟨rfl,by (exact kp)⟩

set_option maxRecDepth 100000 in
theorem kunf_Q (sb:Nat) (e:Edge) (d:Int) (x:ByteArray) (w:World) (hc:∀ W,Keeps w W → Calls Tryz.prog 110 #[.pointer (some ⟨sb,0,none⟩),.agg #[.int .u8 e.tag,.int .u32 e.to],.int .i64 d] W fun r w'=>r=.returned (.string x) ∧ Keeps W w') :
  Calls Tryz.prog 64 #[.pointer (some ⟨sb,0,none⟩),.int .u8 4,.agg #[.int .u8 e.tag,.int .u32 e.to],.int .i64 d] w fun r w'=>r=.returned (.string x) ∧ Keeps w w':=by
 have H:=Lib.hid hc
 clear hc
 go_enter Tryz.func64,Tryz.ntmps64
 go_wp2_with (first | (go_at_call 110;refine (H.out _ (by (exact kp))).mono ?_;rintro r w1 ⟨rfl,hk⟩) | fail)
 go_ret
 exact ⟨rfl,by (exact kp)⟩

set_option maxRecDepth 100000 in
theorem kterm_Q (B off p cap:Nat) (l:Int) (x:ByteArray) (w:World) (hc:∀ W,Keeps w W → Calls Tryz.prog 115 #[.slice (some ⟨B,off,none⟩) p cap,.int .i64 l] W fun r w'=>r=.returned (.string x) ∧ Keeps W w') :
  Calls Tryz.prog 66 #[.int .u8 4,.slice (some ⟨B,off,none⟩) p cap,.int .i64 l] w fun r w'=>r=.returned (.string x) ∧ Keeps w w':=by
 have H:=Lib.hid hc
 clear hc
 go_enter Tryz.func66,Tryz.ntmps66
 go_wp2_with (first | (go_at_call 115;refine (H.out _ (by (exact kp))).mono ?_;rintro r w1 ⟨rfl,hk⟩) | fail)
 go_ret
 exact ⟨rfl,by (exact kp)⟩

set_option maxRecDepth 100000 in
theorem kunf_T (sb:Nat) (e:Edge) (d:Int) (x:ByteArray) (w:World) (hc:∀ W,Keeps w W → Calls Tryz.prog 111 #[.pointer (some ⟨sb,0,none⟩),.agg #[.int .u8 e.tag,.int .u32 e.to],.int .i64 d] W fun r w'=>r=.returned (.string x) ∧ Keeps W w') :
  Calls Tryz.prog 64 #[.pointer (some ⟨sb,0,none⟩),.int .u8 5,.agg #[.int .u8 e.tag,.int .u32 e.to],.int .i64 d] w fun r w'=>r=.returned (.string x) ∧ Keeps w w':=by
 have H:=Lib.hid hc
 clear hc
 go_enter Tryz.func64,Tryz.ntmps64
 go_wp2_with (first | (go_at_call 111;refine (H.out _ (by (exact kp))).mono ?_;rintro r w1 ⟨rfl,hk⟩) | fail)
 go_ret
 exact ⟨rfl,by (exact kp)⟩

set_option maxRecDepth 100000 in
theorem kterm_T (B off p cap:Nat) (l:Int) (x:ByteArray) (w:World) (hc:∀ W,Keeps w W → Calls Tryz.prog 116 #[.slice (some ⟨B,off,none⟩) p cap,.int .i64 l] W fun r w'=>r=.returned (.string x) ∧ Keeps W w') :
  Calls Tryz.prog 66 #[.int .u8 5,.slice (some ⟨B,off,none⟩) p cap,.int .i64 l] w fun r w'=>r=.returned (.string x) ∧ Keeps w w':=by
 have H:=Lib.hid hc
 clear hc
 go_enter Tryz.func66,Tryz.ntmps66
 go_wp2_with (first | (go_at_call 116;refine (H.out _ (by (exact kp))).mono ?_;rintro r w1 ⟨rfl,hk⟩) | fail)
 go_ret
 exact ⟨rfl,by (exact kp)⟩

theorem unfK_calls {F:Nat → Prop} {w:World} {sb:Nat} {M:St} (h:StoreRep F w sb M) (hn9:M.n ≤ 9) (f:Int) (hf:1 ≤ f ∧ f ≤ 5) (n:Nat) (hn:n ≤ 20) (e:Edge) (he:e.ok) (ht:e.tag < 10) :
  Calls Tryz.prog 64 #[.pointer (some ⟨sb,0,none⟩),.int .u8 f,.agg #[.int .u8 e.tag,.int .u32 e.to],.int .i64 ((n:Int) - 1)] w fun r w'=>r=.returned (.string (unfS f M n e)) ∧ Keeps w w':=by
 rcases form_cases hf with rfl | rfl | rfl | rfl | rfl
 ·exact kunf_B sb e _ _ w (fun W hW=>unfB_calls (h.keeps hW) hn9 n hn e W (Keeps.refl _) he)
 ·exact kunf_Z sb e _ _ w (fun W hW=>unfZ_calls (h.keeps hW) hn9 n hn e W (Keeps.refl _) he)
 ·exact kunf_C sb e _ _ w (fun W hW=>unfC_calls (h.keeps hW) hn9 n hn e W (Keeps.refl _) he)
 ·exact kunf_Q sb e _ _ w (fun W hW=>unfQ_calls (h.keeps hW) hn9 n hn e W (Keeps.refl _) he)
 ·exact kunf_T sb e _ _ w (fun W hW=>unfT_calls (h.keeps hW) hn9 n hn e W (Keeps.refl _) he ht)

theorem termK_calls {B:Nat} (f:Int) (hf:1 ≤ f ∧ f ≤ 5) (k:Nat) (hk:k ≤ 9) (off cap:Nat) (ts:List Bool) (l:Int) (w:World) (h:TabAt w B off ts) (hl:ts.length=2 ^ k) (hc:2 ^ k ≤ cap) (hc2:cap ≤ 4096) (h0:0 ≤ l) (h9:l + (k:Nat) < 10) :
  Calls Tryz.prog 66 #[.int .u8 f,.slice (some ⟨B,off,none⟩) (2 ^ k) cap,.int .i64 l] w fun e w'=>e=.returned (.string (termK f k ts l)) ∧ Keeps w w':=by
 rcases form_cases hf with rfl | rfl | rfl | rfl | rfl
 ·exact kterm_B B off _ cap l _ w (fun W hW=>termB_calls k hk off cap ts l W (h.keeps hW) hl hc hc2 h0 (by omega))
 ·exact kterm_Z B off _ cap l _ w (fun W hW=>termZ_calls k hk off cap ts l W (h.keeps hW) hl hc hc2 h0 (by omega))
 ·exact kterm_C B off _ cap l _ w (fun W hW=>termC_calls (k + 1) (by omega) k (by omega) hk off cap ts l W (h.keeps hW) hl hc hc2 h0 (by omega))
 ·exact kterm_Q B off _ cap l _ w (fun W hW=>termQ_calls (k + 1) (by omega) k (by omega) hk off cap ts l W (h.keeps hW) hl hc hc2 h0 (by omega))
 ·exact kterm_T B off _ cap l _ w (fun W hW=>termT_calls (k + 1) (by omega) k (by omega) hk off cap ts l W (h.keeps hW) hl hc hc2 h0 (by omega))

end Go.Proofs.YtfpjogpjocedaaaGreat
