/-
  canon.Make and ramageref17.Make over the state (printed by wip/mk_canon.py).
-/
import Derived.Test.YtpgcbmbnognieaaGreatPLawBase
import Derived.Test.YtpgcbmbnognieaaGreatPMSA
namespace Go.Proofs.YtpgcbmbnognieaaGreat
set_option linter.unusedSimpArgs false
set_option linter.unusedVariables false
set_option maxHeartbeats 600000
open Go.RowKit

def kAct (M:St) (f l:Int) (lo hi:Edge):(Edge × Int) ⊕ Rec:=
 if f=1 then makeAct M 1 l lo hi (bRest M l lo hi) else if f=2 then makeAct M 2 l lo hi (zRest M l lo hi) else if f=3 then makeAct M 3 l lo hi (cRest M l lo hi)
 else if f=4 then makeAct M 4 l lo hi (qRest M l lo hi) else if f=5 then tAct M l lo hi else .inl (⟨0,0⟩,4)

def kE (M:St) (f:Int) (a:(Edge × Int) ⊕ Rec):Edge:=if f=5 then actE M a else actE0 M a

set_option maxRecDepth 100000 in
theorem kmake_b {F:Nat → Prop} (R:World → World → Prop) (sb:Nat) (l a b er:Int) (lo hi:Edge) (w:World) (hsb:sb < w.heap.size) (hlt:∀ k,F k → k < w.heap.size)
  (hf:∀ W,Keeps w W → Calls Tryz.prog 169 #[.pointer (some ⟨sb,0,none⟩),.int .i64 l,.agg #[.int .u8 lo.tag,.int .u32 lo.to],.agg #[.int .u8 hi.tag,.int .u32 hi.to]] W fun e w'=>e=.returned (.tuple #[.agg #[.int .u8 a,.int .u32 b],.int .u8 er]) ∧ Upd F W w' ∧ R W w') :
  Calls Tryz.prog 111 #[.pointer (some ⟨sb,0,none⟩),.int .u8 1,.int .i64 l,.agg #[.int .u8 lo.tag,.int .u32 lo.to],.agg #[.int .u8 hi.tag,.int .u32 hi.to]] w fun e w'=>e=.returned (.tuple #[.agg #[.int .u8 a,.int .u32 b],.int .u8 er]) ∧
   ∃ W W1,Keeps w W ∧ Upd F W W1 ∧ R W W1 ∧ Upd (fun k=>w.heap.size ≤ k ∧ k < W.heap.size) W1 w':=by
 have HF:=Lib.hid hf
 have nF:∀ k,w.heap.size ≤ k → ¬ F k:=fun k hk h=>by have:=hlt k h;omega
 have n2:=nF (w.heap.size + 2) (by omega)
 clear hf hlt nF
 go_enter Tryz.func111,Tryz.ntmps111
 go_wp2_with (go_at_call 169;refine (HF.out _ (by (exact kp))).mono ?_;rintro e w3 ⟨rfl,hu,hR⟩;have hs3:=hu.size;(try simp only [World.size_alloc,World.size_setCell,World.size_drew] at hs3);have v0:=hu.cell (a:=⟨w.heap.size + 2,0,none⟩) n2 (v:=.int .u8 0) (by simp [go_sem]);have v1:=hu.cell (a:=⟨w.heap.size + 2,1,none⟩) n2 (v:=.int .u32 0) (by simp [go_sem]);have vf:=fun o:Nat=>hu.frozen (a:=⟨w.heap.size + 2,o,none⟩) (by simp [go_sem]) n2 (by simp [go_sem]);have hv2:w.heap.size + 2 < w3.heap.size:=(by omega))
 all_goals refine bodyPost_ret (v:=.tuple #[.agg #[.int .u8 a,.int .u32 b],.int .u8 er]) (by simp [results,Tryz.results111,go_sem,hv2,v0,v1]) rfl ⟨rfl,_,w3,by (exact kp),hu,hR,?_⟩
 all_goals (try simp only [World.size_alloc,World.size_setCell,World.size_drew])
 all_goals (repeat (first | with_reducible exact Upd.refl _ _ | exact Upd.mono hu4 (fun k _ hk=>⟨hk.1,by (try simp only [World.size_alloc,World.size_setCell,World.size_drew]);have:=hk.2;omega⟩) | refine Upd.setCell ?_ (Or.inl (by dsimp only;omega)) _ | refine Upd.setCell ?_ (Or.inr (by dsimp only;omega)) _ | with_reducible refine Upd.drewN ?_ _ | with_reducible refine Upd.drew ?_ | with_reducible refine Upd.alloc ?_ _))

set_option maxRecDepth 100000 in
theorem kmake_z {F:Nat → Prop} (R:World → World → Prop) (sb:Nat) (l a b er:Int) (lo hi:Edge) (w:World) (hsb:sb < w.heap.size) (hlt:∀ k,F k → k < w.heap.size)
  (hf:∀ W,Keeps w W → Calls Tryz.prog 170 #[.pointer (some ⟨sb,0,none⟩),.int .i64 l,.agg #[.int .u8 lo.tag,.int .u32 lo.to],.agg #[.int .u8 hi.tag,.int .u32 hi.to]] W fun e w'=>e=.returned (.tuple #[.agg #[.int .u8 a,.int .u32 b],.int .u8 er]) ∧ Upd F W w' ∧ R W w') :
  Calls Tryz.prog 111 #[.pointer (some ⟨sb,0,none⟩),.int .u8 2,.int .i64 l,.agg #[.int .u8 lo.tag,.int .u32 lo.to],.agg #[.int .u8 hi.tag,.int .u32 hi.to]] w fun e w'=>e=.returned (.tuple #[.agg #[.int .u8 a,.int .u32 b],.int .u8 er]) ∧
   ∃ W W1,Keeps w W ∧ Upd F W W1 ∧ R W W1 ∧ Upd (fun k=>w.heap.size ≤ k ∧ k < W.heap.size) W1 w':=by
 have HF:=Lib.hid hf
 have nF:∀ k,w.heap.size ≤ k → ¬ F k:=fun k hk h=>by have:=hlt k h;omega
 have n2:=nF (w.heap.size + 2) (by omega)
 clear hf hlt nF
 go_enter Tryz.func111,Tryz.ntmps111
 go_wp2_with (go_at_call 170;refine (HF.out _ (by (exact kp))).mono ?_;rintro e w3 ⟨rfl,hu,hR⟩;have hs3:=hu.size;(try simp only [World.size_alloc,World.size_setCell,World.size_drew] at hs3);have v0:=hu.cell (a:=⟨w.heap.size + 2,0,none⟩) n2 (v:=.int .u8 0) (by simp [go_sem]);have v1:=hu.cell (a:=⟨w.heap.size + 2,1,none⟩) n2 (v:=.int .u32 0) (by simp [go_sem]);have vf:=fun o:Nat=>hu.frozen (a:=⟨w.heap.size + 2,o,none⟩) (by simp [go_sem]) n2 (by simp [go_sem]);have hv2:w.heap.size + 2 < w3.heap.size:=(by omega))
 all_goals refine bodyPost_ret (v:=.tuple #[.agg #[.int .u8 a,.int .u32 b],.int .u8 er]) (by simp [results,Tryz.results111,go_sem,hv2,v0,v1]) rfl ⟨rfl,_,w3,by (exact kp),hu,hR,?_⟩
 all_goals (try simp only [World.size_alloc,World.size_setCell,World.size_drew])
 all_goals (repeat (first | with_reducible exact Upd.refl _ _ | exact Upd.mono hu4 (fun k _ hk=>⟨hk.1,by (try simp only [World.size_alloc,World.size_setCell,World.size_drew]);have:=hk.2;omega⟩) | refine Upd.setCell ?_ (Or.inl (by dsimp only;omega)) _ | refine Upd.setCell ?_ (Or.inr (by dsimp only;omega)) _ | with_reducible refine Upd.drewN ?_ _ | with_reducible refine Upd.drew ?_ | with_reducible refine Upd.alloc ?_ _))

set_option maxRecDepth 100000 in
theorem kmake_c {F:Nat → Prop} (R:World → World → Prop) (sb:Nat) (l a b er:Int) (lo hi:Edge) (w:World) (hsb:sb < w.heap.size) (hlt:∀ k,F k → k < w.heap.size)
  (hf:∀ W,Keeps w W → Calls Tryz.prog 171 #[.pointer (some ⟨sb,0,none⟩),.int .i64 l,.agg #[.int .u8 lo.tag,.int .u32 lo.to],.agg #[.int .u8 hi.tag,.int .u32 hi.to]] W fun e w'=>e=.returned (.tuple #[.agg #[.int .u8 a,.int .u32 b],.int .u8 er]) ∧ Upd F W w' ∧ R W w') :
  Calls Tryz.prog 111 #[.pointer (some ⟨sb,0,none⟩),.int .u8 3,.int .i64 l,.agg #[.int .u8 lo.tag,.int .u32 lo.to],.agg #[.int .u8 hi.tag,.int .u32 hi.to]] w fun e w'=>e=.returned (.tuple #[.agg #[.int .u8 a,.int .u32 b],.int .u8 er]) ∧
   ∃ W W1,Keeps w W ∧ Upd F W W1 ∧ R W W1 ∧ Upd (fun k=>w.heap.size ≤ k ∧ k < W.heap.size) W1 w':=by
 have HF:=Lib.hid hf
 have nF:∀ k,w.heap.size ≤ k → ¬ F k:=fun k hk h=>by have:=hlt k h;omega
 have n2:=nF (w.heap.size + 2) (by omega)
 clear hf hlt nF
 go_enter Tryz.func111,Tryz.ntmps111
 go_wp2_with (go_at_call 171;refine (HF.out _ (by (exact kp))).mono ?_;rintro e w3 ⟨rfl,hu,hR⟩;have hs3:=hu.size;(try simp only [World.size_alloc,World.size_setCell,World.size_drew] at hs3);have v0:=hu.cell (a:=⟨w.heap.size + 2,0,none⟩) n2 (v:=.int .u8 0) (by simp [go_sem]);have v1:=hu.cell (a:=⟨w.heap.size + 2,1,none⟩) n2 (v:=.int .u32 0) (by simp [go_sem]);have vf:=fun o:Nat=>hu.frozen (a:=⟨w.heap.size + 2,o,none⟩) (by simp [go_sem]) n2 (by simp [go_sem]);have hv2:w.heap.size + 2 < w3.heap.size:=(by omega))
 all_goals refine bodyPost_ret (v:=.tuple #[.agg #[.int .u8 a,.int .u32 b],.int .u8 er]) (by simp [results,Tryz.results111,go_sem,hv2,v0,v1]) rfl ⟨rfl,_,w3,by (exact kp),hu,hR,?_⟩
 all_goals (try simp only [World.size_alloc,World.size_setCell,World.size_drew])
 all_goals (repeat (first | with_reducible exact Upd.refl _ _ | exact Upd.mono hu4 (fun k _ hk=>⟨hk.1,by (try simp only [World.size_alloc,World.size_setCell,World.size_drew]);have:=hk.2;omega⟩) | refine Upd.setCell ?_ (Or.inl (by dsimp only;omega)) _ | refine Upd.setCell ?_ (Or.inr (by dsimp only;omega)) _ | with_reducible refine Upd.drewN ?_ _ | with_reducible refine Upd.drew ?_ | with_reducible refine Upd.alloc ?_ _))

set_option maxRecDepth 100000 in
theorem kmake_q {F:Nat → Prop} (R:World → World → Prop) (sb:Nat) (l a b er:Int) (lo hi:Edge) (w:World) (hsb:sb < w.heap.size) (hlt:∀ k,F k → k < w.heap.size)
  (hf:∀ W,Keeps w W → Calls Tryz.prog 172 #[.pointer (some ⟨sb,0,none⟩),.int .i64 l,.agg #[.int .u8 lo.tag,.int .u32 lo.to],.agg #[.int .u8 hi.tag,.int .u32 hi.to]] W fun e w'=>e=.returned (.tuple #[.agg #[.int .u8 a,.int .u32 b],.int .u8 er]) ∧ Upd F W w' ∧ R W w') :
  Calls Tryz.prog 111 #[.pointer (some ⟨sb,0,none⟩),.int .u8 4,.int .i64 l,.agg #[.int .u8 lo.tag,.int .u32 lo.to],.agg #[.int .u8 hi.tag,.int .u32 hi.to]] w fun e w'=>e=.returned (.tuple #[.agg #[.int .u8 a,.int .u32 b],.int .u8 er]) ∧
   ∃ W W1,Keeps w W ∧ Upd F W W1 ∧ R W W1 ∧ Upd (fun k=>w.heap.size ≤ k ∧ k < W.heap.size) W1 w':=by
 have HF:=Lib.hid hf
 have nF:∀ k,w.heap.size ≤ k → ¬ F k:=fun k hk h=>by have:=hlt k h;omega
 have n2:=nF (w.heap.size + 2) (by omega)
 clear hf hlt nF
 go_enter Tryz.func111,Tryz.ntmps111
 go_wp2_with (go_at_call 172;refine (HF.out _ (by (exact kp))).mono ?_;rintro e w3 ⟨rfl,hu,hR⟩;have hs3:=hu.size;(try simp only [World.size_alloc,World.size_setCell,World.size_drew] at hs3);have v0:=hu.cell (a:=⟨w.heap.size + 2,0,none⟩) n2 (v:=.int .u8 0) (by simp [go_sem]);have v1:=hu.cell (a:=⟨w.heap.size + 2,1,none⟩) n2 (v:=.int .u32 0) (by simp [go_sem]);have vf:=fun o:Nat=>hu.frozen (a:=⟨w.heap.size + 2,o,none⟩) (by simp [go_sem]) n2 (by simp [go_sem]);have hv2:w.heap.size + 2 < w3.heap.size:=(by omega))
 all_goals refine bodyPost_ret (v:=.tuple #[.agg #[.int .u8 a,.int .u32 b],.int .u8 er]) (by simp [results,Tryz.results111,go_sem,hv2,v0,v1]) rfl ⟨rfl,_,w3,by (exact kp),hu,hR,?_⟩
 all_goals (try simp only [World.size_alloc,World.size_setCell,World.size_drew])
 all_goals (repeat (first | with_reducible exact Upd.refl _ _ | exact Upd.mono hu4 (fun k _ hk=>⟨hk.1,by (try simp only [World.size_alloc,World.size_setCell,World.size_drew]);have:=hk.2;omega⟩) | refine Upd.setCell ?_ (Or.inl (by dsimp only;omega)) _ | refine Upd.setCell ?_ (Or.inr (by dsimp only;omega)) _ | with_reducible refine Upd.drewN ?_ _ | with_reducible refine Upd.drew ?_ | with_reducible refine Upd.alloc ?_ _))

set_option maxRecDepth 100000 in
theorem kmake_t {F:Nat → Prop} (R:World → World → Prop) (sb:Nat) (l a b er:Int) (lo hi:Edge) (w:World) (hsb:sb < w.heap.size) (hlt:∀ k,F k → k < w.heap.size)
  (hf:∀ W,Keeps w W → Calls Tryz.prog 173 #[.pointer (some ⟨sb,0,none⟩),.int .i64 l,.agg #[.int .u8 lo.tag,.int .u32 lo.to],.agg #[.int .u8 hi.tag,.int .u32 hi.to]] W fun e w'=>e=.returned (.tuple #[.agg #[.int .u8 a,.int .u32 b],.int .u8 er]) ∧ Upd F W w' ∧ R W w') :
  Calls Tryz.prog 111 #[.pointer (some ⟨sb,0,none⟩),.int .u8 5,.int .i64 l,.agg #[.int .u8 lo.tag,.int .u32 lo.to],.agg #[.int .u8 hi.tag,.int .u32 hi.to]] w fun e w'=>e=.returned (.tuple #[.agg #[.int .u8 a,.int .u32 b],.int .u8 er]) ∧
   ∃ W W1,Keeps w W ∧ Upd F W W1 ∧ R W W1 ∧ Upd (fun k=>w.heap.size ≤ k ∧ k < W.heap.size) W1 w':=by
 have HF:=Lib.hid hf
 have nF:∀ k,w.heap.size ≤ k → ¬ F k:=fun k hk h=>by have:=hlt k h;omega
 have n2:=nF (w.heap.size + 2) (by omega)
 clear hf hlt nF
 go_enter Tryz.func111,Tryz.ntmps111
 go_wp2_with (go_at_call 173;refine (HF.out _ (by (exact kp))).mono ?_;rintro e w3 ⟨rfl,hu,hR⟩;have hs3:=hu.size;(try simp only [World.size_alloc,World.size_setCell,World.size_drew] at hs3);have v0:=hu.cell (a:=⟨w.heap.size + 2,0,none⟩) n2 (v:=.int .u8 0) (by simp [go_sem]);have v1:=hu.cell (a:=⟨w.heap.size + 2,1,none⟩) n2 (v:=.int .u32 0) (by simp [go_sem]);have vf:=fun o:Nat=>hu.frozen (a:=⟨w.heap.size + 2,o,none⟩) (by simp [go_sem]) n2 (by simp [go_sem]);have hv2:w.heap.size + 2 < w3.heap.size:=(by omega))
 all_goals refine bodyPost_ret (v:=.tuple #[.agg #[.int .u8 a,.int .u32 b],.int .u8 er]) (by simp [results,Tryz.results111,go_sem,hv2,v0,v1]) rfl ⟨rfl,_,w3,by (exact kp),hu,hR,?_⟩
 all_goals (try simp only [World.size_alloc,World.size_setCell,World.size_drew])
 all_goals (repeat (first | with_reducible exact Upd.refl _ _ | exact Upd.mono hu4 (fun k _ hk=>⟨hk.1,by (try simp only [World.size_alloc,World.size_setCell,World.size_drew]);have:=hk.2;omega⟩) | refine Upd.setCell ?_ (Or.inl (by dsimp only;omega)) _ | refine Upd.setCell ?_ (Or.inr (by dsimp only;omega)) _ | with_reducible refine Upd.drewN ?_ _ | with_reducible refine Upd.drew ?_ | with_reducible refine Upd.alloc ?_ _))

set_option maxRecDepth 100000 in
theorem kmake_no (sb:Nat) (f l:Int) (lo hi:Edge) (w:World) (hsb:sb < w.heap.size) (h1:f ≠ 1) (h2:f ≠ 2) (h3:f ≠ 3) (h4:f ≠ 4) (h5:f ≠ 5) :
  Calls Tryz.prog 111 #[.pointer (some ⟨sb,0,none⟩),.int .u8 f,.int .i64 l,.agg #[.int .u8 lo.tag,.int .u32 lo.to],.agg #[.int .u8 hi.tag,.int .u32 hi.to]] w fun e w'=>e=.returned (.tuple #[.agg #[.int .u8 0,.int .u32 0],.int .u8 4]) ∧ Keeps w w':=by
 have g1:(f == 1)=false:=by simp [h1]
 have g2:(f == 2)=false:=by simp [h2]
 have g3:(f == 3)=false:=by simp [h3]
 have g4:(f == 4)=false:=by simp [h4]
 have g5:(f == 5)=false:=by simp [h5]
 clear h1 h2 h3 h4 h5
 go_enter Tryz.func111,Tryz.ntmps111
 go_wp2
 all_goals refine bodyPost_ret (v:=.tuple #[.agg #[.int .u8 0,.int .u32 0],.int .u8 4]) (by simp [results,Tryz.results111,go_sem]) rfl ⟨rfl,by (exact kp)⟩

theorem canon_make {F:Nat → Prop} {w:World} {sb:Nat} {M:St} (h:StoreRep F w sb M) (f l:Int) (lo hi:Edge) (hlo:lo.ok) (hhi:hi.ok) :
  Calls Tryz.prog 111 #[.pointer (some ⟨sb,0,none⟩),.int .u8 f,.int .i64 l,.agg #[.int .u8 lo.tag,.int .u32 lo.to],.agg #[.int .u8 hi.tag,.int .u32 hi.to]] w fun r w'=>
   r=.returned (.tuple #[.agg #[.int .u8 (kE M f (kAct M f l lo hi)).tag,.int .u32 (kE M f (kAct M f l lo hi)).to],.int .u8 (actErr M (kAct M f l lo hi))]) ∧ Upd F w w' ∧ StoreRep (Grow F w w') w' sb (actSt M (kAct M f l lo hi)):=by
 by_cases f1:f=1
 ·subst f1
  have e1:kAct M 1 l lo hi=makeAct M 1 l lo hi (bRest M l lo hi):=rfl
  have e2:kE M 1 (kAct M 1 l lo hi)=actE0 M (makeAct M 1 l lo hi (bRest M l lo hi)):=by rw [e1];rfl
  rw [e2,e1]
  refine (kmake_b (fun W W1=>StoreRep (Grow F W W1) W1 sb (actSt M (makeAct M 1 l lo hi (bRest M l lo hi)))) sb l _ _ _ lo hi w h.pos h.lt (fun W hW=>bdd_make (h.keeps hW) l lo hi hlo hhi)).mono ?_
  rintro e w' ⟨rfl,W,W1,q1,q2,q3,q4⟩
  exact ⟨rfl,q3.after h.lt q1 q2 q4⟩
 by_cases f2:f=2
 ·subst f2
  have e1:kAct M 2 l lo hi=makeAct M 2 l lo hi (zRest M l lo hi):=rfl
  have e2:kE M 2 (kAct M 2 l lo hi)=actE0 M (makeAct M 2 l lo hi (zRest M l lo hi)):=by rw [e1];rfl
  rw [e2,e1]
  refine (kmake_z (fun W W1=>StoreRep (Grow F W W1) W1 sb (actSt M (makeAct M 2 l lo hi (zRest M l lo hi)))) sb l _ _ _ lo hi w h.pos h.lt (fun W hW=>zdd_make (h.keeps hW) l lo hi hlo hhi)).mono ?_
  rintro e w' ⟨rfl,W,W1,q1,q2,q3,q4⟩
  exact ⟨rfl,q3.after h.lt q1 q2 q4⟩
 by_cases f3:f=3
 ·subst f3
  have e1:kAct M 3 l lo hi=makeAct M 3 l lo hi (cRest M l lo hi):=rfl
  have e2:kE M 3 (kAct M 3 l lo hi)=actE0 M (makeAct M 3 l lo hi (cRest M l lo hi)):=by rw [e1];rfl
  rw [e2,e1]
  refine (kmake_c (fun W W1=>StoreRep (Grow F W W1) W1 sb (actSt M (makeAct M 3 l lo hi (cRest M l lo hi)))) sb l _ _ _ lo hi w h.pos h.lt (fun W hW=>cbdd_make (h.keeps hW) l lo hi hlo hhi)).mono ?_
  rintro e w' ⟨rfl,W,W1,q1,q2,q3,q4⟩
  exact ⟨rfl,q3.after h.lt q1 q2 q4⟩
 by_cases f4:f=4
 ·subst f4
  have e1:kAct M 4 l lo hi=makeAct M 4 l lo hi (qRest M l lo hi):=rfl
  have e2:kE M 4 (kAct M 4 l lo hi)=actE0 M (makeAct M 4 l lo hi (qRest M l lo hi)):=by rw [e1];rfl
  rw [e2,e1]
  refine (kmake_q (fun W W1=>StoreRep (Grow F W W1) W1 sb (actSt M (makeAct M 4 l lo hi (qRest M l lo hi)))) sb l _ _ _ lo hi w h.pos h.lt (fun W hW=>czdd_make (h.keeps hW) l lo hi hlo hhi)).mono ?_
  rintro e w' ⟨rfl,W,W1,q1,q2,q3,q4⟩
  exact ⟨rfl,q3.after h.lt q1 q2 q4⟩
 by_cases f5:f=5
 ·subst f5
  have e1:kAct M 5 l lo hi=tAct M l lo hi:=rfl
  have e2:kE M 5 (kAct M 5 l lo hi)=actE M (tAct M l lo hi):=by rw [e1];rfl
  rw [e2,e1]
  refine (kmake_t (fun W W1=>StoreRep (Grow F W W1) W1 sb (actSt M (tAct M l lo hi))) sb l _ _ _ lo hi w h.pos h.lt (fun W hW=>tbdd_make (h.keeps hW) l lo hi hlo hhi)).mono ?_
  rintro e w' ⟨rfl,W,W1,q1,q2,q3,q4⟩
  exact ⟨rfl,q3.after h.lt q1 q2 q4⟩
 have e1:kAct M f l lo hi=.inl (⟨0,0⟩,4):=by unfold kAct;rw [if_neg f1,if_neg f2,if_neg f3,if_neg f4,if_neg f5]
 have e2:kE M f (kAct M f l lo hi)=⟨0,0⟩:=by rw [e1];unfold kE;split <;> rfl
 rw [e2,e1]
 exact (kmake_no sb f l lo hi w h.pos f1 f2 f3 f4 f5).mono fun r w' hr=>⟨hr.1,h.stay hr.2⟩

def oneE (f n:Int):Edge:=if f=5 then ⟨n,1⟩ else ⟨0,1⟩

set_option maxRecDepth 100000 in
theorem one_calls (f n:Int) (w:World) (hf:isFormB f=true) (hn0:0 ≤ n) (hn:n ≤ 16):Calls Tryz.prog 207 #[.int .u8 f,.int .i64 n] w fun e w'=>e=.returned (.agg #[.int .u8 (oneE f n).tag,.int .u32 (oneE f n).to]) ∧ Keeps w w':=by
 have h2:mayB n=true:=by simp [mayB,hn0,hn]
 by_cases h5:f=5
 ·subst h5
  go_enter Tryz.func207,Tryz.ntmps207
  go_wp2_with (first | (go_at_call 153;refine (isForm_calls _ _).mono ?_;rintro e w' ⟨rfl,rfl⟩) | (go_at_call 191;refine (may_calls _ _).mono ?_;rintro e w' ⟨rfl,rfl⟩) | fail)
  all_goals refine bodyPost_ret (v:=.agg #[.int .u8 n,.int .u32 1]) (by simp [results,Tryz.results207,go_sem]) rfl ⟨rfl,by (exact kp)⟩
 ·have h6:(f == 5)=false:=by simp [h5]
  have e:oneE f n=⟨0,1⟩:=if_neg h5
  rw [e]
  go_enter Tryz.func207,Tryz.ntmps207
  go_wp2_with (first | (go_at_call 153;refine (isForm_calls _ _).mono ?_;rintro e w' ⟨rfl,rfl⟩) | (go_at_call 191;refine (may_calls _ _).mono ?_;rintro e w' ⟨rfl,rfl⟩) | fail)
  all_goals refine bodyPost_ret (v:=.agg #[.int .u8 0,.int .u32 1]) (by simp [results,Tryz.results207,go_sem]) rfl ⟨rfl,by (exact kp)⟩

end Go.Proofs.YtpgcbmbnognieaaGreat
