/-
  canon.Right and ramageref17.Right over the state (printed by wip/mk_kview.py).
-/
import Derived.Test.YtfpjogpjocedaaaGreatPRightC
import Derived.Test.YtfpjogpjocedaaaGreatPRightQ
import Derived.Test.YtfpjogpjocedaaaGreatPSaveW
import Derived.Test.YtfpjogpjocedaaaGreatPTakeP
namespace Go.Proofs.YtfpjogpjocedaaaGreat
set_option linter.unusedSimpArgs false
set_option linter.unusedVariables false
set_option maxHeartbeats 600000
open Go.RowKit

noncomputable def kRight (M:St) (f:Int) (e:Edge) (l:Int):Bool:=
 if f=1 then M.leads 1 e l else if f=2 then M.leads 2 e l else if f=3 then rightL M 3 e l else if f=4 then rightL M 4 e l else if f=5 then rightL M 5 e l else false

set_option maxRecDepth 100000 in
theorem bdd_right {F:Nat → Prop} {w:World} {sb:Nat} {M:St} (h:StoreRep F w sb M) (v:Edge) (l:Int) (hv:v.ok) :
  Calls Tryz.prog 99 #[.pointer (some ⟨sb,0,none⟩),.agg #[.int .u8 v.tag,.int .u32 v.to],.int .i64 l] w fun r w'=>r=.returned (.bool (M.leads 1 v l)) ∧ Keeps w w':=by
 have HL:=Lib.hid (fun (W:World) (hW:Keeps w W)=>store_leads (h.keeps hW) 1 v l hv)
 clear h
 obtain ⟨b,hb⟩:∃ b,b=M.leads 1 v l:=⟨_,rfl⟩
 rw [← hb] at HL ⊢
 clear hb
 go_enter Tryz.func99,Tryz.ntmps99
 go_wp2_with fail
 refine (HL.out _ (by (exact kp))).mono ?_
 rintro e w1 ⟨rfl,hk⟩
 go_wp2_with fail
 go_ret
 exact ⟨rfl,by (exact kp)⟩

set_option maxRecDepth 100000 in
theorem zdd_right {F:Nat → Prop} {w:World} {sb:Nat} {M:St} (h:StoreRep F w sb M) (v:Edge) (l:Int) (hv:v.ok) :
  Calls Tryz.prog 100 #[.pointer (some ⟨sb,0,none⟩),.agg #[.int .u8 v.tag,.int .u32 v.to],.int .i64 l] w fun r w'=>r=.returned (.bool (M.leads 2 v l)) ∧ Keeps w w':=by
 have HL:=Lib.hid (fun (W:World) (hW:Keeps w W)=>store_leads (h.keeps hW) 2 v l hv)
 clear h
 obtain ⟨b,hb⟩:∃ b,b=M.leads 2 v l:=⟨_,rfl⟩
 rw [← hb] at HL ⊢
 clear hb
 go_enter Tryz.func100,Tryz.ntmps100
 go_wp2_with fail
 refine (HL.out _ (by (exact kp))).mono ?_
 rintro e w1 ⟨rfl,hk⟩
 go_wp2_with fail
 go_ret
 exact ⟨rfl,by (exact kp)⟩

set_option maxRecDepth 100000 in
theorem kright_b (sb:Nat) (l:Int) (b:Bool) (v:Edge) (w:World)
  (hf:∀ W,Keeps w W → Calls Tryz.prog 99 #[.pointer (some ⟨sb,0,none⟩),.agg #[.int .u8 v.tag,.int .u32 v.to],.int .i64 l] W fun e w'=>e=.returned (.bool b) ∧ Keeps W w') :
  Calls Tryz.prog 62 #[.pointer (some ⟨sb,0,none⟩),.int .u8 1,.agg #[.int .u8 v.tag,.int .u32 v.to],.int .i64 l] w fun e w'=>e=.returned (.bool b) ∧ Keeps w w':=by
 have HF:=Lib.hid hf
 clear hf
 go_enter Tryz.func62,Tryz.ntmps62
 go_wp2_with fail
 refine (HF.out _ (by (exact kp))).mono ?_
 rintro e w1 ⟨rfl,hk⟩
 go_wp2_with fail
 go_ret
 exact ⟨rfl,by (exact kp)⟩

set_option maxRecDepth 100000 in
theorem kright_z (sb:Nat) (l:Int) (b:Bool) (v:Edge) (w:World)
  (hf:∀ W,Keeps w W → Calls Tryz.prog 100 #[.pointer (some ⟨sb,0,none⟩),.agg #[.int .u8 v.tag,.int .u32 v.to],.int .i64 l] W fun e w'=>e=.returned (.bool b) ∧ Keeps W w') :
  Calls Tryz.prog 62 #[.pointer (some ⟨sb,0,none⟩),.int .u8 2,.agg #[.int .u8 v.tag,.int .u32 v.to],.int .i64 l] w fun e w'=>e=.returned (.bool b) ∧ Keeps w w':=by
 have HF:=Lib.hid hf
 clear hf
 go_enter Tryz.func62,Tryz.ntmps62
 go_wp2_with fail
 refine (HF.out _ (by (exact kp))).mono ?_
 rintro e w1 ⟨rfl,hk⟩
 go_wp2_with fail
 go_ret
 exact ⟨rfl,by (exact kp)⟩

set_option maxRecDepth 100000 in
theorem kright_c (sb:Nat) (l:Int) (b:Bool) (v:Edge) (w:World)
  (hf:∀ W,Keeps w W → Calls Tryz.prog 101 #[.pointer (some ⟨sb,0,none⟩),.agg #[.int .u8 v.tag,.int .u32 v.to],.int .i64 l] W fun e w'=>e=.returned (.bool b) ∧ Keeps W w') :
  Calls Tryz.prog 62 #[.pointer (some ⟨sb,0,none⟩),.int .u8 3,.agg #[.int .u8 v.tag,.int .u32 v.to],.int .i64 l] w fun e w'=>e=.returned (.bool b) ∧ Keeps w w':=by
 have HF:=Lib.hid hf
 clear hf
 go_enter Tryz.func62,Tryz.ntmps62
 go_wp2_with fail
 refine (HF.out _ (by (exact kp))).mono ?_
 rintro e w1 ⟨rfl,hk⟩
 go_wp2_with fail
 go_ret
 exact ⟨rfl,by (exact kp)⟩

set_option maxRecDepth 100000 in
theorem kright_q (sb:Nat) (l:Int) (b:Bool) (v:Edge) (w:World)
  (hf:∀ W,Keeps w W → Calls Tryz.prog 102 #[.pointer (some ⟨sb,0,none⟩),.agg #[.int .u8 v.tag,.int .u32 v.to],.int .i64 l] W fun e w'=>e=.returned (.bool b) ∧ Keeps W w') :
  Calls Tryz.prog 62 #[.pointer (some ⟨sb,0,none⟩),.int .u8 4,.agg #[.int .u8 v.tag,.int .u32 v.to],.int .i64 l] w fun e w'=>e=.returned (.bool b) ∧ Keeps w w':=by
 have HF:=Lib.hid hf
 clear hf
 go_enter Tryz.func62,Tryz.ntmps62
 go_wp2_with fail
 refine (HF.out _ (by (exact kp))).mono ?_
 rintro e w1 ⟨rfl,hk⟩
 go_wp2_with fail
 go_ret
 exact ⟨rfl,by (exact kp)⟩

set_option maxRecDepth 100000 in
theorem kright_t (sb:Nat) (l:Int) (b:Bool) (v:Edge) (w:World)
  (hf:∀ W,Keeps w W → Calls Tryz.prog 103 #[.pointer (some ⟨sb,0,none⟩),.agg #[.int .u8 v.tag,.int .u32 v.to],.int .i64 l] W fun e w'=>e=.returned (.bool b) ∧ Keeps W w') :
  Calls Tryz.prog 62 #[.pointer (some ⟨sb,0,none⟩),.int .u8 5,.agg #[.int .u8 v.tag,.int .u32 v.to],.int .i64 l] w fun e w'=>e=.returned (.bool b) ∧ Keeps w w':=by
 have HF:=Lib.hid hf
 clear hf
 go_enter Tryz.func62,Tryz.ntmps62
 go_wp2_with fail
 refine (HF.out _ (by (exact kp))).mono ?_
 rintro e w1 ⟨rfl,hk⟩
 go_wp2_with fail
 go_ret
 exact ⟨rfl,by (exact kp)⟩

set_option maxRecDepth 100000 in
theorem kright_no (sb:Nat) (f l:Int) (v:Edge) (w:World) (h1:f ≠ 1) (h2:f ≠ 2) (h3:f ≠ 3) (h4:f ≠ 4) (h5:f ≠ 5) :
  Calls Tryz.prog 62 #[.pointer (some ⟨sb,0,none⟩),.int .u8 f,.agg #[.int .u8 v.tag,.int .u32 v.to],.int .i64 l] w fun e w'=>e=.returned (.bool false) ∧ Keeps w w':=by
 have g1:(f == 1)=false:=by simp [h1]
 have g2:(f == 2)=false:=by simp [h2]
 have g3:(f == 3)=false:=by simp [h3]
 have g4:(f == 4)=false:=by simp [h4]
 have g5:(f == 5)=false:=by simp [h5]
 clear h1 h2 h3 h4 h5
 go_enter Tryz.func62,Tryz.ntmps62
 go_wp2
 go_ret
 exact ⟨rfl,by (exact kp)⟩

theorem canon_right {F:Nat → Prop} {w:World} {sb:Nat} {M:St} (h:StoreRep F w sb M) (f:Int) (e:Edge) (l:Int) (he:e.ok) :
  Calls Tryz.prog 62 #[.pointer (some ⟨sb,0,none⟩),.int .u8 f,.agg #[.int .u8 e.tag,.int .u32 e.to],.int .i64 l] w fun r w'=>r=.returned (.bool (kRight M f e l)) ∧ Keeps w w':=by
 by_cases f1:f=1
 ·subst f1
  exact kright_b sb l _ e w (fun W hW=>bdd_right (h.keeps hW) e l he)
 by_cases f2:f=2
 ·subst f2
  exact kright_z sb l _ e w (fun W hW=>zdd_right (h.keeps hW) e l he)
 by_cases f3:f=3
 ·subst f3
  exact kright_c sb l _ e w (fun W hW=>cbdd_right (h.keeps hW) e l he)
 by_cases f4:f=4
 ·subst f4
  exact kright_q sb l _ e w (fun W hW=>czdd_right (h.keeps hW) e l he)
 by_cases f5:f=5
 ·subst f5
  exact kright_t sb l _ e w (fun W hW=>tbdd_right (h.keeps hW) e l he)
 have e1:kRight M f e l=false:=by unfold kRight;rw [if_neg f1,if_neg f2,if_neg f3,if_neg f4,if_neg f5]
 rw [e1]
 exact kright_no sb f l e w f1 f2 f3 f4 f5

set_option maxRecDepth 100000 in
theorem ref12_right {F:Nat → Prop} {w:World} {sb:Nat} {M:St} {L:List (Int × Rec)} (h:RefRep F w sb M L) (v:Edge) (l:Int) (hv:v.ok) :
  Calls Tryz.prog 48 #[.pointer (some ⟨sb,0,none⟩),.agg #[.int .u8 v.tag,.int .u32 v.to],.int .i64 l] w fun r w'=>r=.returned (.bool (M.leads 1 v l)) ∧ Keeps w w':=by
 have HL:=Lib.hid (fun (W:World) (hW:Keeps w W)=>ref_leads (h.keeps hW) 1 v l hv)
 clear h
 obtain ⟨b,hb⟩:∃ b,b=M.leads 1 v l:=⟨_,rfl⟩
 rw [← hb] at HL ⊢
 clear hb
 go_enter Tryz.func48,Tryz.ntmps48
 go_wp2_with fail
 refine (HL.out _ (by (exact kp))).mono ?_
 rintro e w1 ⟨rfl,hk⟩
 go_wp2_with fail
 go_ret
 exact ⟨rfl,by (exact kp)⟩

set_option maxRecDepth 100000 in
theorem ref13_right {F:Nat → Prop} {w:World} {sb:Nat} {M:St} {L:List (Int × Rec)} (h:RefRep F w sb M L) (v:Edge) (l:Int) (hv:v.ok) :
  Calls Tryz.prog 49 #[.pointer (some ⟨sb,0,none⟩),.agg #[.int .u8 v.tag,.int .u32 v.to],.int .i64 l] w fun r w'=>r=.returned (.bool (M.leads 2 v l)) ∧ Keeps w w':=by
 have HL:=Lib.hid (fun (W:World) (hW:Keeps w W)=>ref_leads (h.keeps hW) 2 v l hv)
 clear h
 obtain ⟨b,hb⟩:∃ b,b=M.leads 2 v l:=⟨_,rfl⟩
 rw [← hb] at HL ⊢
 clear hb
 go_enter Tryz.func49,Tryz.ntmps49
 go_wp2_with fail
 refine (HL.out _ (by (exact kp))).mono ?_
 rintro e w1 ⟨rfl,hk⟩
 go_wp2_with fail
 go_ret
 exact ⟨rfl,by (exact kp)⟩

set_option maxRecDepth 100000 in
theorem rkright_b (sb:Nat) (l:Int) (b:Bool) (v:Edge) (w:World)
  (hf:∀ W,Keeps w W → Calls Tryz.prog 48 #[.pointer (some ⟨sb,0,none⟩),.agg #[.int .u8 v.tag,.int .u32 v.to],.int .i64 l] W fun e w'=>e=.returned (.bool b) ∧ Keeps W w') :
  Calls Tryz.prog 17 #[.pointer (some ⟨sb,0,none⟩),.int .u8 1,.agg #[.int .u8 v.tag,.int .u32 v.to],.int .i64 l] w fun e w'=>e=.returned (.bool b) ∧ Keeps w w':=by
 have HF:=Lib.hid hf
 clear hf
 go_enter Tryz.func17,Tryz.ntmps17
 go_wp2_with fail
 refine (HF.out _ (by (exact kp))).mono ?_
 rintro e w1 ⟨rfl,hk⟩
 go_wp2_with fail
 go_ret
 exact ⟨rfl,by (exact kp)⟩

set_option maxRecDepth 100000 in
theorem rkright_z (sb:Nat) (l:Int) (b:Bool) (v:Edge) (w:World)
  (hf:∀ W,Keeps w W → Calls Tryz.prog 49 #[.pointer (some ⟨sb,0,none⟩),.agg #[.int .u8 v.tag,.int .u32 v.to],.int .i64 l] W fun e w'=>e=.returned (.bool b) ∧ Keeps W w') :
  Calls Tryz.prog 17 #[.pointer (some ⟨sb,0,none⟩),.int .u8 2,.agg #[.int .u8 v.tag,.int .u32 v.to],.int .i64 l] w fun e w'=>e=.returned (.bool b) ∧ Keeps w w':=by
 have HF:=Lib.hid hf
 clear hf
 go_enter Tryz.func17,Tryz.ntmps17
 go_wp2_with fail
 refine (HF.out _ (by (exact kp))).mono ?_
 rintro e w1 ⟨rfl,hk⟩
 go_wp2_with fail
 go_ret
 exact ⟨rfl,by (exact kp)⟩

set_option maxRecDepth 100000 in
theorem rkright_c (sb:Nat) (l:Int) (b:Bool) (v:Edge) (w:World)
  (hf:∀ W,Keeps w W → Calls Tryz.prog 50 #[.pointer (some ⟨sb,0,none⟩),.agg #[.int .u8 v.tag,.int .u32 v.to],.int .i64 l] W fun e w'=>e=.returned (.bool b) ∧ Keeps W w') :
  Calls Tryz.prog 17 #[.pointer (some ⟨sb,0,none⟩),.int .u8 3,.agg #[.int .u8 v.tag,.int .u32 v.to],.int .i64 l] w fun e w'=>e=.returned (.bool b) ∧ Keeps w w':=by
 have HF:=Lib.hid hf
 clear hf
 go_enter Tryz.func17,Tryz.ntmps17
 go_wp2_with fail
 refine (HF.out _ (by (exact kp))).mono ?_
 rintro e w1 ⟨rfl,hk⟩
 go_wp2_with fail
 go_ret
 exact ⟨rfl,by (exact kp)⟩

set_option maxRecDepth 100000 in
theorem rkright_q (sb:Nat) (l:Int) (b:Bool) (v:Edge) (w:World)
  (hf:∀ W,Keeps w W → Calls Tryz.prog 51 #[.pointer (some ⟨sb,0,none⟩),.agg #[.int .u8 v.tag,.int .u32 v.to],.int .i64 l] W fun e w'=>e=.returned (.bool b) ∧ Keeps W w') :
  Calls Tryz.prog 17 #[.pointer (some ⟨sb,0,none⟩),.int .u8 4,.agg #[.int .u8 v.tag,.int .u32 v.to],.int .i64 l] w fun e w'=>e=.returned (.bool b) ∧ Keeps w w':=by
 have HF:=Lib.hid hf
 clear hf
 go_enter Tryz.func17,Tryz.ntmps17
 go_wp2_with fail
 refine (HF.out _ (by (exact kp))).mono ?_
 rintro e w1 ⟨rfl,hk⟩
 go_wp2_with fail
 go_ret
 exact ⟨rfl,by (exact kp)⟩

set_option maxRecDepth 100000 in
theorem rkright_t (sb:Nat) (l:Int) (b:Bool) (v:Edge) (w:World)
  (hf:∀ W,Keeps w W → Calls Tryz.prog 52 #[.pointer (some ⟨sb,0,none⟩),.agg #[.int .u8 v.tag,.int .u32 v.to],.int .i64 l] W fun e w'=>e=.returned (.bool b) ∧ Keeps W w') :
  Calls Tryz.prog 17 #[.pointer (some ⟨sb,0,none⟩),.int .u8 5,.agg #[.int .u8 v.tag,.int .u32 v.to],.int .i64 l] w fun e w'=>e=.returned (.bool b) ∧ Keeps w w':=by
 have HF:=Lib.hid hf
 clear hf
 go_enter Tryz.func17,Tryz.ntmps17
 go_wp2_with fail
 refine (HF.out _ (by (exact kp))).mono ?_
 rintro e w1 ⟨rfl,hk⟩
 go_wp2_with fail
 go_ret
 exact ⟨rfl,by (exact kp)⟩

set_option maxRecDepth 100000 in
theorem rkright_no (sb:Nat) (f l:Int) (v:Edge) (w:World) (h1:f ≠ 1) (h2:f ≠ 2) (h3:f ≠ 3) (h4:f ≠ 4) (h5:f ≠ 5) :
  Calls Tryz.prog 17 #[.pointer (some ⟨sb,0,none⟩),.int .u8 f,.agg #[.int .u8 v.tag,.int .u32 v.to],.int .i64 l] w fun e w'=>e=.returned (.bool false) ∧ Keeps w w':=by
 have g1:(f == 1)=false:=by simp [h1]
 have g2:(f == 2)=false:=by simp [h2]
 have g3:(f == 3)=false:=by simp [h3]
 have g4:(f == 4)=false:=by simp [h4]
 have g5:(f == 5)=false:=by simp [h5]
 clear h1 h2 h3 h4 h5
 go_enter Tryz.func17,Tryz.ntmps17
 go_wp2
 go_ret
 exact ⟨rfl,by (exact kp)⟩

theorem ref17_right {F:Nat → Prop} {w:World} {sb:Nat} {M:St} {L:List (Int × Rec)} (h:RefRep F w sb M L) (f:Int) (e:Edge) (l:Int) (he:e.ok) :
  Calls Tryz.prog 17 #[.pointer (some ⟨sb,0,none⟩),.int .u8 f,.agg #[.int .u8 e.tag,.int .u32 e.to],.int .i64 l] w fun r w'=>r=.returned (.bool (kRight M f e l)) ∧ Keeps w w':=by
 by_cases f1:f=1
 ·subst f1
  exact rkright_b sb l _ e w (fun W hW=>ref12_right (h.keeps hW) e l he)
 by_cases f2:f=2
 ·subst f2
  exact rkright_z sb l _ e w (fun W hW=>ref13_right (h.keeps hW) e l he)
 by_cases f3:f=3
 ·subst f3
  exact rkright_c sb l _ e w (fun W hW=>ref14_right (h.keeps hW) e l he)
 by_cases f4:f=4
 ·subst f4
  exact rkright_q sb l _ e w (fun W hW=>ref15_right (h.keeps hW) e l he)
 by_cases f5:f=5
 ·subst f5
  exact rkright_t sb l _ e w (fun W hW=>ref16_right (h.keeps hW) e l he)
 have e1:kRight M f e l=false:=by unfold kRight;rw [if_neg f1,if_neg f2,if_neg f3,if_neg f4,if_neg f5]
 rw [e1]
 exact rkright_no sb f l e w f1 f2 f3 f4 f5

end Go.Proofs.YtfpjogpjocedaaaGreat
