/-
  canon.View and ramageref17.View over the state (printed by wip/mk_kview.py).
-/
import Derived.Test.YtiifimnpmbfihaaGreatPKMake
import Derived.Test.YtiifimnpmbfihaaGreatPRightQ
import Derived.Test.YtiifimnpmbfihaaGreatPRightT
namespace Go.Proofs.YtiifimnpmbfihaaGreat
set_option linter.unusedSimpArgs false
set_option linter.unusedVariables false
set_option maxHeartbeats 600000
open Go.RowKit

def kvAct (M:St) (f:Int) (e:Edge) (l:Int):(Edge × Edge × Int) ⊕ Rec:=
 if f=1 then viewAct M 1 e l else if f=2 then viewAct M 2 e l else if f=3 then viewAct M 3 e l else if f=4 then viewAct M 4 e l else if f=5 then viewAct M 5 e l else .inl (⟨0,0⟩,⟨0,0⟩,4)

set_option maxRecDepth 100000 in
theorem kview_b {F:Nat → Prop} (R:World → World → Prop) (sb:Nat) (l er:Int) (v lo hi:Edge) (w:World) (hsb:sb < w.heap.size) (hlt:∀ k,F k → k < w.heap.size)
  (hf:∀ W,Keeps w W → Calls Tryz.prog 293 #[.pointer (some ⟨sb,0,none⟩),.agg #[.int .u8 v.tag,.int .u32 v.to],.int .i64 l] W fun e w'=>e=.returned (.tuple #[.agg #[.int .u8 lo.tag,.int .u32 lo.to],.agg #[.int .u8 hi.tag,.int .u32 hi.to],.int .u8 er]) ∧ Upd F W w' ∧ R W w') :
  Calls Tryz.prog 267 #[.pointer (some ⟨sb,0,none⟩),.int .u8 1,.agg #[.int .u8 v.tag,.int .u32 v.to],.int .i64 l] w fun e w'=>e=.returned (.tuple #[.agg #[.int .u8 lo.tag,.int .u32 lo.to],.agg #[.int .u8 hi.tag,.int .u32 hi.to],.int .u8 er]) ∧
   ∃ W W1,Keeps w W ∧ Upd F W W1 ∧ R W W1 ∧ Upd (fun k=>w.heap.size ≤ k ∧ k < W.heap.size) W1 w':=by
 have HF:=Lib.hid hf
 have nF:∀ k,w.heap.size ≤ k → ¬ F k:=fun k hk h=>by have:=hlt k h;omega
 have n1:=nF (w.heap.size + 1) (by omega)
 have n2:=nF (w.heap.size + 2) (by omega)
 clear hf hlt nF
 go_enter Tryz.func267,Tryz.ntmps267
 go_wp2_with (go_at_call 293;refine (HF.out _ (by (exact kp))).mono ?_;rintro e w3 ⟨rfl,hu,hR⟩;have hs3:=hu.size;(try simp only [World.size_alloc,World.size_setCell,World.size_drew] at hs3);have u0:=hu.cell (a:=⟨w.heap.size + 1,0,none⟩) n1 (v:=.int .u8 0) (by simp [go_sem]);have u1:=hu.cell (a:=⟨w.heap.size + 1,1,none⟩) n1 (v:=.int .u32 0) (by simp [go_sem]);have uf:=fun o:Nat=>hu.frozen (a:=⟨w.heap.size + 1,o,none⟩) (by simp [go_sem]) n1 (by simp [go_sem]);have v0:=hu.cell (a:=⟨w.heap.size + 2,0,none⟩) n2 (v:=.int .u8 0) (by simp [go_sem]);have v1:=hu.cell (a:=⟨w.heap.size + 2,1,none⟩) n2 (v:=.int .u32 0) (by simp [go_sem]);have vf:=fun o:Nat=>hu.frozen (a:=⟨w.heap.size + 2,o,none⟩) (by simp [go_sem]) n2 (by simp [go_sem]);have hv1:w.heap.size + 1 < w3.heap.size:=(by omega);have hv2:w.heap.size + 2 < w3.heap.size:=(by omega))
 all_goals refine bodyPost_ret (v:=.tuple #[.agg #[.int .u8 lo.tag,.int .u32 lo.to],.agg #[.int .u8 hi.tag,.int .u32 hi.to],.int .u8 er]) (by simp [results,Tryz.results267,go_sem,hv1,hv2,u0,u1,v0,v1]) rfl ⟨rfl,_,w3,by (exact kp),hu,hR,?_⟩
 all_goals (try simp only [World.size_alloc,World.size_setCell,World.size_drew])
 all_goals (repeat (first | with_reducible exact Upd.refl _ _ | exact Upd.mono hu4 (fun k _ hk=>⟨hk.1,by (try simp only [World.size_alloc,World.size_setCell,World.size_drew]);have:=hk.2;omega⟩) | refine Upd.setCell ?_ (Or.inl (by dsimp only;omega)) _ | refine Upd.setCell ?_ (Or.inr (by dsimp only;omega)) _ | with_reducible refine Upd.drewN ?_ _ | with_reducible refine Upd.drew ?_ | with_reducible refine Upd.alloc ?_ _))

set_option maxRecDepth 100000 in
theorem kview_z {F:Nat → Prop} (R:World → World → Prop) (sb:Nat) (l er:Int) (v lo hi:Edge) (w:World) (hsb:sb < w.heap.size) (hlt:∀ k,F k → k < w.heap.size)
  (hf:∀ W,Keeps w W → Calls Tryz.prog 294 #[.pointer (some ⟨sb,0,none⟩),.agg #[.int .u8 v.tag,.int .u32 v.to],.int .i64 l] W fun e w'=>e=.returned (.tuple #[.agg #[.int .u8 lo.tag,.int .u32 lo.to],.agg #[.int .u8 hi.tag,.int .u32 hi.to],.int .u8 er]) ∧ Upd F W w' ∧ R W w') :
  Calls Tryz.prog 267 #[.pointer (some ⟨sb,0,none⟩),.int .u8 2,.agg #[.int .u8 v.tag,.int .u32 v.to],.int .i64 l] w fun e w'=>e=.returned (.tuple #[.agg #[.int .u8 lo.tag,.int .u32 lo.to],.agg #[.int .u8 hi.tag,.int .u32 hi.to],.int .u8 er]) ∧
   ∃ W W1,Keeps w W ∧ Upd F W W1 ∧ R W W1 ∧ Upd (fun k=>w.heap.size ≤ k ∧ k < W.heap.size) W1 w':=by
 have HF:=Lib.hid hf
 have nF:∀ k,w.heap.size ≤ k → ¬ F k:=fun k hk h=>by have:=hlt k h;omega
 have n1:=nF (w.heap.size + 1) (by omega)
 have n2:=nF (w.heap.size + 2) (by omega)
 clear hf hlt nF
 go_enter Tryz.func267,Tryz.ntmps267
 go_wp2_with (go_at_call 294;refine (HF.out _ (by (exact kp))).mono ?_;rintro e w3 ⟨rfl,hu,hR⟩;have hs3:=hu.size;(try simp only [World.size_alloc,World.size_setCell,World.size_drew] at hs3);have u0:=hu.cell (a:=⟨w.heap.size + 1,0,none⟩) n1 (v:=.int .u8 0) (by simp [go_sem]);have u1:=hu.cell (a:=⟨w.heap.size + 1,1,none⟩) n1 (v:=.int .u32 0) (by simp [go_sem]);have uf:=fun o:Nat=>hu.frozen (a:=⟨w.heap.size + 1,o,none⟩) (by simp [go_sem]) n1 (by simp [go_sem]);have v0:=hu.cell (a:=⟨w.heap.size + 2,0,none⟩) n2 (v:=.int .u8 0) (by simp [go_sem]);have v1:=hu.cell (a:=⟨w.heap.size + 2,1,none⟩) n2 (v:=.int .u32 0) (by simp [go_sem]);have vf:=fun o:Nat=>hu.frozen (a:=⟨w.heap.size + 2,o,none⟩) (by simp [go_sem]) n2 (by simp [go_sem]);have hv1:w.heap.size + 1 < w3.heap.size:=(by omega);have hv2:w.heap.size + 2 < w3.heap.size:=(by omega))
 all_goals refine bodyPost_ret (v:=.tuple #[.agg #[.int .u8 lo.tag,.int .u32 lo.to],.agg #[.int .u8 hi.tag,.int .u32 hi.to],.int .u8 er]) (by simp [results,Tryz.results267,go_sem,hv1,hv2,u0,u1,v0,v1]) rfl ⟨rfl,_,w3,by (exact kp),hu,hR,?_⟩
 all_goals (try simp only [World.size_alloc,World.size_setCell,World.size_drew])
 all_goals (repeat (first | with_reducible exact Upd.refl _ _ | exact Upd.mono hu4 (fun k _ hk=>⟨hk.1,by (try simp only [World.size_alloc,World.size_setCell,World.size_drew]);have:=hk.2;omega⟩) | refine Upd.setCell ?_ (Or.inl (by dsimp only;omega)) _ | refine Upd.setCell ?_ (Or.inr (by dsimp only;omega)) _ | with_reducible refine Upd.drewN ?_ _ | with_reducible refine Upd.drew ?_ | with_reducible refine Upd.alloc ?_ _))

set_option maxRecDepth 100000 in
theorem kview_c {F:Nat → Prop} (R:World → World → Prop) (sb:Nat) (l er:Int) (v lo hi:Edge) (w:World) (hsb:sb < w.heap.size) (hlt:∀ k,F k → k < w.heap.size)
  (hf:∀ W,Keeps w W → Calls Tryz.prog 295 #[.pointer (some ⟨sb,0,none⟩),.agg #[.int .u8 v.tag,.int .u32 v.to],.int .i64 l] W fun e w'=>e=.returned (.tuple #[.agg #[.int .u8 lo.tag,.int .u32 lo.to],.agg #[.int .u8 hi.tag,.int .u32 hi.to],.int .u8 er]) ∧ Upd F W w' ∧ R W w') :
  Calls Tryz.prog 267 #[.pointer (some ⟨sb,0,none⟩),.int .u8 3,.agg #[.int .u8 v.tag,.int .u32 v.to],.int .i64 l] w fun e w'=>e=.returned (.tuple #[.agg #[.int .u8 lo.tag,.int .u32 lo.to],.agg #[.int .u8 hi.tag,.int .u32 hi.to],.int .u8 er]) ∧
   ∃ W W1,Keeps w W ∧ Upd F W W1 ∧ R W W1 ∧ Upd (fun k=>w.heap.size ≤ k ∧ k < W.heap.size) W1 w':=by
 have HF:=Lib.hid hf
 have nF:∀ k,w.heap.size ≤ k → ¬ F k:=fun k hk h=>by have:=hlt k h;omega
 have n1:=nF (w.heap.size + 1) (by omega)
 have n2:=nF (w.heap.size + 2) (by omega)
 clear hf hlt nF
 go_enter Tryz.func267,Tryz.ntmps267
 go_wp2_with (go_at_call 295;refine (HF.out _ (by (exact kp))).mono ?_;rintro e w3 ⟨rfl,hu,hR⟩;have hs3:=hu.size;(try simp only [World.size_alloc,World.size_setCell,World.size_drew] at hs3);have u0:=hu.cell (a:=⟨w.heap.size + 1,0,none⟩) n1 (v:=.int .u8 0) (by simp [go_sem]);have u1:=hu.cell (a:=⟨w.heap.size + 1,1,none⟩) n1 (v:=.int .u32 0) (by simp [go_sem]);have uf:=fun o:Nat=>hu.frozen (a:=⟨w.heap.size + 1,o,none⟩) (by simp [go_sem]) n1 (by simp [go_sem]);have v0:=hu.cell (a:=⟨w.heap.size + 2,0,none⟩) n2 (v:=.int .u8 0) (by simp [go_sem]);have v1:=hu.cell (a:=⟨w.heap.size + 2,1,none⟩) n2 (v:=.int .u32 0) (by simp [go_sem]);have vf:=fun o:Nat=>hu.frozen (a:=⟨w.heap.size + 2,o,none⟩) (by simp [go_sem]) n2 (by simp [go_sem]);have hv1:w.heap.size + 1 < w3.heap.size:=(by omega);have hv2:w.heap.size + 2 < w3.heap.size:=(by omega))
 all_goals refine bodyPost_ret (v:=.tuple #[.agg #[.int .u8 lo.tag,.int .u32 lo.to],.agg #[.int .u8 hi.tag,.int .u32 hi.to],.int .u8 er]) (by simp [results,Tryz.results267,go_sem,hv1,hv2,u0,u1,v0,v1]) rfl ⟨rfl,_,w3,by (exact kp),hu,hR,?_⟩
 all_goals (try simp only [World.size_alloc,World.size_setCell,World.size_drew])
 all_goals (repeat (first | with_reducible exact Upd.refl _ _ | exact Upd.mono hu4 (fun k _ hk=>⟨hk.1,by (try simp only [World.size_alloc,World.size_setCell,World.size_drew]);have:=hk.2;omega⟩) | refine Upd.setCell ?_ (Or.inl (by dsimp only;omega)) _ | refine Upd.setCell ?_ (Or.inr (by dsimp only;omega)) _ | with_reducible refine Upd.drewN ?_ _ | with_reducible refine Upd.drew ?_ | with_reducible refine Upd.alloc ?_ _))

set_option maxRecDepth 100000 in
theorem kview_q {F:Nat → Prop} (R:World → World → Prop) (sb:Nat) (l er:Int) (v lo hi:Edge) (w:World) (hsb:sb < w.heap.size) (hlt:∀ k,F k → k < w.heap.size)
  (hf:∀ W,Keeps w W → Calls Tryz.prog 296 #[.pointer (some ⟨sb,0,none⟩),.agg #[.int .u8 v.tag,.int .u32 v.to],.int .i64 l] W fun e w'=>e=.returned (.tuple #[.agg #[.int .u8 lo.tag,.int .u32 lo.to],.agg #[.int .u8 hi.tag,.int .u32 hi.to],.int .u8 er]) ∧ Upd F W w' ∧ R W w') :
  Calls Tryz.prog 267 #[.pointer (some ⟨sb,0,none⟩),.int .u8 4,.agg #[.int .u8 v.tag,.int .u32 v.to],.int .i64 l] w fun e w'=>e=.returned (.tuple #[.agg #[.int .u8 lo.tag,.int .u32 lo.to],.agg #[.int .u8 hi.tag,.int .u32 hi.to],.int .u8 er]) ∧
   ∃ W W1,Keeps w W ∧ Upd F W W1 ∧ R W W1 ∧ Upd (fun k=>w.heap.size ≤ k ∧ k < W.heap.size) W1 w':=by
 have HF:=Lib.hid hf
 have nF:∀ k,w.heap.size ≤ k → ¬ F k:=fun k hk h=>by have:=hlt k h;omega
 have n1:=nF (w.heap.size + 1) (by omega)
 have n2:=nF (w.heap.size + 2) (by omega)
 clear hf hlt nF
 go_enter Tryz.func267,Tryz.ntmps267
 go_wp2_with (go_at_call 296;refine (HF.out _ (by (exact kp))).mono ?_;rintro e w3 ⟨rfl,hu,hR⟩;have hs3:=hu.size;(try simp only [World.size_alloc,World.size_setCell,World.size_drew] at hs3);have u0:=hu.cell (a:=⟨w.heap.size + 1,0,none⟩) n1 (v:=.int .u8 0) (by simp [go_sem]);have u1:=hu.cell (a:=⟨w.heap.size + 1,1,none⟩) n1 (v:=.int .u32 0) (by simp [go_sem]);have uf:=fun o:Nat=>hu.frozen (a:=⟨w.heap.size + 1,o,none⟩) (by simp [go_sem]) n1 (by simp [go_sem]);have v0:=hu.cell (a:=⟨w.heap.size + 2,0,none⟩) n2 (v:=.int .u8 0) (by simp [go_sem]);have v1:=hu.cell (a:=⟨w.heap.size + 2,1,none⟩) n2 (v:=.int .u32 0) (by simp [go_sem]);have vf:=fun o:Nat=>hu.frozen (a:=⟨w.heap.size + 2,o,none⟩) (by simp [go_sem]) n2 (by simp [go_sem]);have hv1:w.heap.size + 1 < w3.heap.size:=(by omega);have hv2:w.heap.size + 2 < w3.heap.size:=(by omega))
 all_goals refine bodyPost_ret (v:=.tuple #[.agg #[.int .u8 lo.tag,.int .u32 lo.to],.agg #[.int .u8 hi.tag,.int .u32 hi.to],.int .u8 er]) (by simp [results,Tryz.results267,go_sem,hv1,hv2,u0,u1,v0,v1]) rfl ⟨rfl,_,w3,by (exact kp),hu,hR,?_⟩
 all_goals (try simp only [World.size_alloc,World.size_setCell,World.size_drew])
 all_goals (repeat (first | with_reducible exact Upd.refl _ _ | exact Upd.mono hu4 (fun k _ hk=>⟨hk.1,by (try simp only [World.size_alloc,World.size_setCell,World.size_drew]);have:=hk.2;omega⟩) | refine Upd.setCell ?_ (Or.inl (by dsimp only;omega)) _ | refine Upd.setCell ?_ (Or.inr (by dsimp only;omega)) _ | with_reducible refine Upd.drewN ?_ _ | with_reducible refine Upd.drew ?_ | with_reducible refine Upd.alloc ?_ _))

set_option maxRecDepth 100000 in
theorem kview_t {F:Nat → Prop} (R:World → World → Prop) (sb:Nat) (l er:Int) (v lo hi:Edge) (w:World) (hsb:sb < w.heap.size) (hlt:∀ k,F k → k < w.heap.size)
  (hf:∀ W,Keeps w W → Calls Tryz.prog 297 #[.pointer (some ⟨sb,0,none⟩),.agg #[.int .u8 v.tag,.int .u32 v.to],.int .i64 l] W fun e w'=>e=.returned (.tuple #[.agg #[.int .u8 lo.tag,.int .u32 lo.to],.agg #[.int .u8 hi.tag,.int .u32 hi.to],.int .u8 er]) ∧ Upd F W w' ∧ R W w') :
  Calls Tryz.prog 267 #[.pointer (some ⟨sb,0,none⟩),.int .u8 5,.agg #[.int .u8 v.tag,.int .u32 v.to],.int .i64 l] w fun e w'=>e=.returned (.tuple #[.agg #[.int .u8 lo.tag,.int .u32 lo.to],.agg #[.int .u8 hi.tag,.int .u32 hi.to],.int .u8 er]) ∧
   ∃ W W1,Keeps w W ∧ Upd F W W1 ∧ R W W1 ∧ Upd (fun k=>w.heap.size ≤ k ∧ k < W.heap.size) W1 w':=by
 have HF:=Lib.hid hf
 have nF:∀ k,w.heap.size ≤ k → ¬ F k:=fun k hk h=>by have:=hlt k h;omega
 have n1:=nF (w.heap.size + 1) (by omega)
 have n2:=nF (w.heap.size + 2) (by omega)
 clear hf hlt nF
 go_enter Tryz.func267,Tryz.ntmps267
 go_wp2_with (go_at_call 297;refine (HF.out _ (by (exact kp))).mono ?_;rintro e w3 ⟨rfl,hu,hR⟩;have hs3:=hu.size;(try simp only [World.size_alloc,World.size_setCell,World.size_drew] at hs3);have u0:=hu.cell (a:=⟨w.heap.size + 1,0,none⟩) n1 (v:=.int .u8 0) (by simp [go_sem]);have u1:=hu.cell (a:=⟨w.heap.size + 1,1,none⟩) n1 (v:=.int .u32 0) (by simp [go_sem]);have uf:=fun o:Nat=>hu.frozen (a:=⟨w.heap.size + 1,o,none⟩) (by simp [go_sem]) n1 (by simp [go_sem]);have v0:=hu.cell (a:=⟨w.heap.size + 2,0,none⟩) n2 (v:=.int .u8 0) (by simp [go_sem]);have v1:=hu.cell (a:=⟨w.heap.size + 2,1,none⟩) n2 (v:=.int .u32 0) (by simp [go_sem]);have vf:=fun o:Nat=>hu.frozen (a:=⟨w.heap.size + 2,o,none⟩) (by simp [go_sem]) n2 (by simp [go_sem]);have hv1:w.heap.size + 1 < w3.heap.size:=(by omega);have hv2:w.heap.size + 2 < w3.heap.size:=(by omega))
 all_goals refine bodyPost_ret (v:=.tuple #[.agg #[.int .u8 lo.tag,.int .u32 lo.to],.agg #[.int .u8 hi.tag,.int .u32 hi.to],.int .u8 er]) (by simp [results,Tryz.results267,go_sem,hv1,hv2,u0,u1,v0,v1]) rfl ⟨rfl,_,w3,by (exact kp),hu,hR,?_⟩
 all_goals (try simp only [World.size_alloc,World.size_setCell,World.size_drew])
 all_goals (repeat (first | with_reducible exact Upd.refl _ _ | exact Upd.mono hu4 (fun k _ hk=>⟨hk.1,by (try simp only [World.size_alloc,World.size_setCell,World.size_drew]);have:=hk.2;omega⟩) | refine Upd.setCell ?_ (Or.inl (by dsimp only;omega)) _ | refine Upd.setCell ?_ (Or.inr (by dsimp only;omega)) _ | with_reducible refine Upd.drewN ?_ _ | with_reducible refine Upd.drew ?_ | with_reducible refine Upd.alloc ?_ _))

set_option maxRecDepth 100000 in
theorem kview_no (sb:Nat) (f l:Int) (v:Edge) (w:World) (hsb:sb < w.heap.size) (h1:f ≠ 1) (h2:f ≠ 2) (h3:f ≠ 3) (h4:f ≠ 4) (h5:f ≠ 5) :
  Calls Tryz.prog 267 #[.pointer (some ⟨sb,0,none⟩),.int .u8 f,.agg #[.int .u8 v.tag,.int .u32 v.to],.int .i64 l] w fun e w'=>e=.returned (.tuple #[.agg #[.int .u8 0,.int .u32 0],.agg #[.int .u8 0,.int .u32 0],.int .u8 4]) ∧ Keeps w w':=by
 have g1:(f == 1)=false:=by simp [h1]
 have g2:(f == 2)=false:=by simp [h2]
 have g3:(f == 3)=false:=by simp [h3]
 have g4:(f == 4)=false:=by simp [h4]
 have g5:(f == 5)=false:=by simp [h5]
 clear h1 h2 h3 h4 h5
 go_enter Tryz.func267,Tryz.ntmps267
 go_wp2
 (try go_region)
 all_goals (try go_wp2)
 all_goals refine bodyPost_ret (v:=.tuple #[.agg #[.int .u8 0,.int .u32 0],.agg #[.int .u8 0,.int .u32 0],.int .u8 4]) (by simp [results,Tryz.results267,go_sem]) rfl ⟨rfl,by (exact kp)⟩

theorem canon_view {F:Nat → Prop} {w:World} {sb:Nat} {M:St} (h:StoreRep F w sb M) (f:Int) (e:Edge) (l:Int) (he:e.ok) :
  Calls Tryz.prog 267 #[.pointer (some ⟨sb,0,none⟩),.int .u8 f,.agg #[.int .u8 e.tag,.int .u32 e.to],.int .i64 l] w fun r w'=>
   r=.returned (.tuple #[.agg #[.int .u8 (vLo M (kvAct M f e l)).tag,.int .u32 (vLo M (kvAct M f e l)).to],.agg #[.int .u8 (vHi M f (kvAct M f e l)).tag,.int .u32 (vHi M f (kvAct M f e l)).to],.int .u8 (vErr M (kvAct M f e l))]) ∧ Upd F w w' ∧ StoreRep (Grow F w w') w' sb (vSt M (kvAct M f e l)):=by
 by_cases f1:f=1
 ·subst f1
  have e1:kvAct M 1 e l=viewAct M 1 e l:=rfl
  rw [e1]
  refine (kview_b (fun W W1=>StoreRep (Grow F W W1) W1 sb (vSt M (viewAct M 1 e l))) sb l _ e _ _ w h.pos h.lt (fun W hW=>bdd_view (h.keeps hW) e l he)).mono ?_
  rintro r w' ⟨rfl,W,W1,q1,q2,q3,q4⟩
  exact ⟨rfl,q3.after h.lt q1 q2 q4⟩
 by_cases f2:f=2
 ·subst f2
  have e1:kvAct M 2 e l=viewAct M 2 e l:=rfl
  rw [e1]
  refine (kview_z (fun W W1=>StoreRep (Grow F W W1) W1 sb (vSt M (viewAct M 2 e l))) sb l _ e _ _ w h.pos h.lt (fun W hW=>zdd_view (h.keeps hW) e l he)).mono ?_
  rintro r w' ⟨rfl,W,W1,q1,q2,q3,q4⟩
  exact ⟨rfl,q3.after h.lt q1 q2 q4⟩
 by_cases f3:f=3
 ·subst f3
  have e1:kvAct M 3 e l=viewAct M 3 e l:=rfl
  rw [e1]
  refine (kview_c (fun W W1=>StoreRep (Grow F W W1) W1 sb (vSt M (viewAct M 3 e l))) sb l _ e _ _ w h.pos h.lt (fun W hW=>cbdd_view (h.keeps hW) e l he)).mono ?_
  rintro r w' ⟨rfl,W,W1,q1,q2,q3,q4⟩
  exact ⟨rfl,q3.after h.lt q1 q2 q4⟩
 by_cases f4:f=4
 ·subst f4
  have e1:kvAct M 4 e l=viewAct M 4 e l:=rfl
  rw [e1]
  refine (kview_q (fun W W1=>StoreRep (Grow F W W1) W1 sb (vSt M (viewAct M 4 e l))) sb l _ e _ _ w h.pos h.lt (fun W hW=>czdd_view (h.keeps hW) e l he)).mono ?_
  rintro r w' ⟨rfl,W,W1,q1,q2,q3,q4⟩
  exact ⟨rfl,q3.after h.lt q1 q2 q4⟩
 by_cases f5:f=5
 ·subst f5
  have e1:kvAct M 5 e l=viewAct M 5 e l:=rfl
  rw [e1]
  refine (kview_t (fun W W1=>StoreRep (Grow F W W1) W1 sb (vSt M (viewAct M 5 e l))) sb l _ e _ _ w h.pos h.lt (fun W hW=>tbdd_view (h.keeps hW) e l he)).mono ?_
  rintro r w' ⟨rfl,W,W1,q1,q2,q3,q4⟩
  exact ⟨rfl,q3.after h.lt q1 q2 q4⟩
 have e1:kvAct M f e l=.inl (⟨0,0⟩,⟨0,0⟩,4):=by unfold kvAct;rw [if_neg f1,if_neg f2,if_neg f3,if_neg f4,if_neg f5]
 rw [e1]
 exact (kview_no sb f l e w h.pos f1 f2 f3 f4 f5).mono fun r w' hr=>⟨hr.1,h.stay hr.2⟩

noncomputable def kRight (M:St) (f:Int) (e:Edge) (l:Int):Bool:=
 if f=1 then M.leads 1 e l else if f=2 then M.leads 2 e l else if f=3 then rightL M 3 e l else if f=4 then rightL M 4 e l else if f=5 then rightL M 5 e l else false

set_option maxRecDepth 100000 in
theorem bdd_right {F:Nat → Prop} {w:World} {sb:Nat} {M:St} (h:StoreRep F w sb M) (v:Edge) (l:Int) (hv:v.ok) :
  Calls Tryz.prog 169 #[.pointer (some ⟨sb,0,none⟩),.agg #[.int .u8 v.tag,.int .u32 v.to],.int .i64 l] w fun r w'=>r=.returned (.bool (M.leads 1 v l)) ∧ Keeps w w':=by
 have HL:=Lib.hid (fun (W:World) (hW:Keeps w W)=>store_leads (h.keeps hW) 1 v l hv)
 clear h
 obtain ⟨b,hb⟩:∃ b,b=M.leads 1 v l:=⟨_,rfl⟩
 rw [← hb] at HL ⊢
 clear hb
 go_enter Tryz.func169,Tryz.ntmps169
 go_wp2_with fail
 refine (HL.out _ (by (exact kp))).mono ?_
 rintro e w1 ⟨rfl,hk⟩
 go_wp2_with fail
 go_ret
 exact ⟨rfl,by (exact kp)⟩

set_option maxRecDepth 100000 in
theorem zdd_right {F:Nat → Prop} {w:World} {sb:Nat} {M:St} (h:StoreRep F w sb M) (v:Edge) (l:Int) (hv:v.ok) :
  Calls Tryz.prog 170 #[.pointer (some ⟨sb,0,none⟩),.agg #[.int .u8 v.tag,.int .u32 v.to],.int .i64 l] w fun r w'=>r=.returned (.bool (M.leads 2 v l)) ∧ Keeps w w':=by
 have HL:=Lib.hid (fun (W:World) (hW:Keeps w W)=>store_leads (h.keeps hW) 2 v l hv)
 clear h
 obtain ⟨b,hb⟩:∃ b,b=M.leads 2 v l:=⟨_,rfl⟩
 rw [← hb] at HL ⊢
 clear hb
 go_enter Tryz.func170,Tryz.ntmps170
 go_wp2_with fail
 refine (HL.out _ (by (exact kp))).mono ?_
 rintro e w1 ⟨rfl,hk⟩
 go_wp2_with fail
 go_ret
 exact ⟨rfl,by (exact kp)⟩

set_option maxRecDepth 100000 in
theorem kright_b (sb:Nat) (l:Int) (b:Bool) (v:Edge) (w:World)
  (hf:∀ W,Keeps w W → Calls Tryz.prog 169 #[.pointer (some ⟨sb,0,none⟩),.agg #[.int .u8 v.tag,.int .u32 v.to],.int .i64 l] W fun e w'=>e=.returned (.bool b) ∧ Keeps W w') :
  Calls Tryz.prog 85 #[.pointer (some ⟨sb,0,none⟩),.int .u8 1,.agg #[.int .u8 v.tag,.int .u32 v.to],.int .i64 l] w fun e w'=>e=.returned (.bool b) ∧ Keeps w w':=by
 have HF:=Lib.hid hf
 clear hf
 go_enter Tryz.func85,Tryz.ntmps85
 go_wp2_with fail
 refine (HF.out _ (by (exact kp))).mono ?_
 rintro e w1 ⟨rfl,hk⟩
 go_wp2_with fail
 go_ret
 exact ⟨rfl,by (exact kp)⟩

set_option maxRecDepth 100000 in
theorem kright_z (sb:Nat) (l:Int) (b:Bool) (v:Edge) (w:World)
  (hf:∀ W,Keeps w W → Calls Tryz.prog 170 #[.pointer (some ⟨sb,0,none⟩),.agg #[.int .u8 v.tag,.int .u32 v.to],.int .i64 l] W fun e w'=>e=.returned (.bool b) ∧ Keeps W w') :
  Calls Tryz.prog 85 #[.pointer (some ⟨sb,0,none⟩),.int .u8 2,.agg #[.int .u8 v.tag,.int .u32 v.to],.int .i64 l] w fun e w'=>e=.returned (.bool b) ∧ Keeps w w':=by
 have HF:=Lib.hid hf
 clear hf
 go_enter Tryz.func85,Tryz.ntmps85
 go_wp2_with fail
 refine (HF.out _ (by (exact kp))).mono ?_
 rintro e w1 ⟨rfl,hk⟩
 go_wp2_with fail
 go_ret
 exact ⟨rfl,by (exact kp)⟩

set_option maxRecDepth 100000 in
theorem kright_c (sb:Nat) (l:Int) (b:Bool) (v:Edge) (w:World)
  (hf:∀ W,Keeps w W → Calls Tryz.prog 171 #[.pointer (some ⟨sb,0,none⟩),.agg #[.int .u8 v.tag,.int .u32 v.to],.int .i64 l] W fun e w'=>e=.returned (.bool b) ∧ Keeps W w') :
  Calls Tryz.prog 85 #[.pointer (some ⟨sb,0,none⟩),.int .u8 3,.agg #[.int .u8 v.tag,.int .u32 v.to],.int .i64 l] w fun e w'=>e=.returned (.bool b) ∧ Keeps w w':=by
 have HF:=Lib.hid hf
 clear hf
 go_enter Tryz.func85,Tryz.ntmps85
 go_wp2_with fail
 refine (HF.out _ (by (exact kp))).mono ?_
 rintro e w1 ⟨rfl,hk⟩
 go_wp2_with fail
 go_ret
 exact ⟨rfl,by (exact kp)⟩

set_option maxRecDepth 100000 in
theorem kright_q (sb:Nat) (l:Int) (b:Bool) (v:Edge) (w:World)
  (hf:∀ W,Keeps w W → Calls Tryz.prog 172 #[.pointer (some ⟨sb,0,none⟩),.agg #[.int .u8 v.tag,.int .u32 v.to],.int .i64 l] W fun e w'=>e=.returned (.bool b) ∧ Keeps W w') :
  Calls Tryz.prog 85 #[.pointer (some ⟨sb,0,none⟩),.int .u8 4,.agg #[.int .u8 v.tag,.int .u32 v.to],.int .i64 l] w fun e w'=>e=.returned (.bool b) ∧ Keeps w w':=by
 have HF:=Lib.hid hf
 clear hf
 go_enter Tryz.func85,Tryz.ntmps85
 go_wp2_with fail
 refine (HF.out _ (by (exact kp))).mono ?_
 rintro e w1 ⟨rfl,hk⟩
 go_wp2_with fail
 go_ret
 exact ⟨rfl,by (exact kp)⟩

set_option maxRecDepth 100000 in
theorem kright_t (sb:Nat) (l:Int) (b:Bool) (v:Edge) (w:World)
  (hf:∀ W,Keeps w W → Calls Tryz.prog 173 #[.pointer (some ⟨sb,0,none⟩),.agg #[.int .u8 v.tag,.int .u32 v.to],.int .i64 l] W fun e w'=>e=.returned (.bool b) ∧ Keeps W w') :
  Calls Tryz.prog 85 #[.pointer (some ⟨sb,0,none⟩),.int .u8 5,.agg #[.int .u8 v.tag,.int .u32 v.to],.int .i64 l] w fun e w'=>e=.returned (.bool b) ∧ Keeps w w':=by
 have HF:=Lib.hid hf
 clear hf
 go_enter Tryz.func85,Tryz.ntmps85
 go_wp2_with fail
 refine (HF.out _ (by (exact kp))).mono ?_
 rintro e w1 ⟨rfl,hk⟩
 go_wp2_with fail
 go_ret
 exact ⟨rfl,by (exact kp)⟩

set_option maxRecDepth 100000 in
theorem kright_no (sb:Nat) (f l:Int) (v:Edge) (w:World) (h1:f ≠ 1) (h2:f ≠ 2) (h3:f ≠ 3) (h4:f ≠ 4) (h5:f ≠ 5) :
  Calls Tryz.prog 85 #[.pointer (some ⟨sb,0,none⟩),.int .u8 f,.agg #[.int .u8 v.tag,.int .u32 v.to],.int .i64 l] w fun e w'=>e=.returned (.bool false) ∧ Keeps w w':=by
 have g1:(f == 1)=false:=by simp [h1]
 have g2:(f == 2)=false:=by simp [h2]
 have g3:(f == 3)=false:=by simp [h3]
 have g4:(f == 4)=false:=by simp [h4]
 have g5:(f == 5)=false:=by simp [h5]
 clear h1 h2 h3 h4 h5
 go_enter Tryz.func85,Tryz.ntmps85
 go_wp2
 go_ret
 exact ⟨rfl,by (exact kp)⟩

theorem canon_right {F:Nat → Prop} {w:World} {sb:Nat} {M:St} (h:StoreRep F w sb M) (f:Int) (e:Edge) (l:Int) (he:e.ok) :
  Calls Tryz.prog 85 #[.pointer (some ⟨sb,0,none⟩),.int .u8 f,.agg #[.int .u8 e.tag,.int .u32 e.to],.int .i64 l] w fun r w'=>r=.returned (.bool (kRight M f e l)) ∧ Keeps w w':=by
 by_cases f1:f=1
 ·subst f1
  exact kright_b sb l _ e w (fun W hW=>bdd_right (h.keeps hW) e l he)
 by_cases f2:f=2
 ·subst f2
  exact kright_z sb l _ e w (fun W hW=>zdd_right (h.keeps hW) e l he)
 by_cases f3:f=3
 ·subst f3
  exact kright_c sb l _ e w (fun W hW=>cbdd_right (h.keeps hW) e l he)
 by_cases f4:f=4
 ·subst f4
  exact kright_q sb l _ e w (fun W hW=>czdd_right (h.keeps hW) e l he)
 by_cases f5:f=5
 ·subst f5
  exact kright_t sb l _ e w (fun W hW=>tbdd_right (h.keeps hW) e l he)
 have e1:kRight M f e l=false:=by unfold kRight;rw [if_neg f1,if_neg f2,if_neg f3,if_neg f4,if_neg f5]
 rw [e1]
 exact kright_no sb f l e w f1 f2 f3 f4 f5

end Go.Proofs.YtiifimnpmbfihaaGreat
