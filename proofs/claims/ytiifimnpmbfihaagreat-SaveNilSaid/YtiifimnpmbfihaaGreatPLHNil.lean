/-
  Proved: the statement SaveNil, for every input.
-/
import Derived.Test.YtiifimnpmbfihaaGreatPSaveA
import Derived.Test.YtiifimnpmbfihaaGreatRows
namespace Go.Proofs.YtiifimnpmbfihaaGreat
set_option linter.unusedSimpArgs false
set_option linter.unusedVariables false
set_option maxHeartbeats 600000
open Go.ChangeShapes Go.WideShapes Go.ChangeAt Go.RowKit

theorem loadNone_calls {sp op:Option Addr} (h:sp=none ∨ op=none) (a:Option Addr) (len cap:Nat) (w:World):Calls Tryz.prog 32 #[.pointer sp,.pointer op,.slice a len cap] w fun r w'=>r=.returned (.tuple #[.int .u8 0,.agg #[.int .u8 (⟨0,0⟩:Edge).tag,.int .u32 (⟨0,0⟩:Edge).to],.int .u8 2]) ∧ Keeps w w':=by
 have HF:=Lib.hid (fun (W:World)=>saveFit_none h W)
 clear h
 go_enter Tryz.func32,Tryz.ntmps32
 go_wp2_with (first | (go_at_call 83;refine (HF.out _).mono ?_;rintro e' w1 ⟨rfl,hk1⟩;have y0:w1.cell? ⟨w.heap.size,0,none⟩=some (.int .u8 0):=hk1.cell (by simp);have y1:w1.cell? ⟨w.heap.size,1,none⟩=some (.int .u32 0):=hk1.cell (by simp);have yf:∀ o:Nat,w1.frozen? ⟨w.heap.size,o,none⟩=false:=(fun o=>(hk1.cells.2 w.heap.size o (by simp)).trans (by simp));have hs1:=hk1.size;simp only [World.size_alloc] at hs1;have hs2:w.heap.size < w1.heap.size:=(by omega)) | fail)
 all_goals refine bodyPost_ret (v:=.tuple #[.int .u8 0,.agg #[.int .u8 (⟨0,0⟩:Edge).tag,.int .u32 (⟨0,0⟩:Edge).to],.int .u8 2]) (by simp [results,Tryz.results32,go_sem,hs2,y0,y1]) rfl ?_
 all_goals exact ⟨rfl,by (exact kp)⟩

theorem two_ints (w:World):IntsAt (w.alloc (.cells #[.int .i64 0,.int .i64 1] 3)) (some ⟨w.heap.size,0,none⟩) [0,1]:=fun i x hx=>by
 rcases i with _ | _ | i
 ·simp at hx;subst hx;exact ⟨_,0,rfl,by simp [go_sem]⟩
 ·simp at hx;subst hx;exact ⟨_,0,rfl,by simp [go_sem]⟩
 ·simp at hx

set_option maxRecDepth 100000 in
set_option maxHeartbeats 2000000 in
theorem saveNil_walk (f:Int) (v:Edge) (a:Option Addr) (len cap:Nat) (bs:List Int) (w:World) (_:(Lit.int .u8 f).wf=true) (_:v.ok) (_:IsU8s w a len bs) :
  Calls Tryz.prog 5 #[.int .u8 f,.agg #[.int .u8 v.tag,.int .u32 v.to],.slice a len cap] w fun e w'=>e=.returned (.bool true) ∧ Keeps w w':=by
 have hp:permB [0,1]=true:=by decide
 have HST:=Lib.hid (fun (W:World)=>stage_calls 5 (some ⟨W.heap.size,0,none⟩) 2 [0,1] (W.alloc (.cells #[.int .i64 0,.int .i64 1] 3)) (two_ints W) hp (by decide) (by decide))
 clear hp
 go_enter Tryz.func5,Tryz.ntmps5
 go_wp2_with fail
 refine (l28_alive _).mono ?_
 rintro e w1 ⟨rfl,hk1⟩
 have v0:=hk1.cell (a:=⟨w.heap.size,0,none⟩) (v:=.int .u8 v.tag) (by simp [go_sem])
 have v1:=hk1.cell (a:=⟨w.heap.size,1,none⟩) (v:=.int .u32 v.to) (by simp [go_sem])
 have s1:=hk1.size
 simp only [World.size_alloc] at s1
 have HKW:=Lib.hid (((Keeps.refl w).alloc _).trans hk1)
 clear hk1
 go_wp2_with fail
 refine (HST.out _).mono ?_
 rintro e w2 ⟨sb,ob,F,Fo,rfl,hk2,-⟩
 replace hk2:=((Keeps.refl w1).alloc _).trans hk2
 replace v0:=hk2.cell v0
 replace v1:=hk2.cell v1
 have s2:=hk2.size
 have HKW2:=Lib.hid (HKW.out.trans hk2)
 have l2:w.heap.size < w2.heap.size:=by omega
 clear hk2 HST
 go_wp2_with fail
 refine (saveNone_calls (.inl rfl) f v _).mono ?_
 rintro e w3 ⟨rfl,hk3⟩
 replace v0:=hk3.cell v0
 replace v1:=hk3.cell v1
 have s3:=hk3.size
 have HKW3:=Lib.hid (HKW2.out.trans hk3)
 have l3:w.heap.size < w3.heap.size:=by omega
 clear hk3
 go_wp2_with fail
 refine (saveNone_calls (.inr rfl) f v _).mono ?_
 rintro e w4 ⟨rfl,hk4⟩
 replace v0:=hk4.cell v0
 replace v1:=hk4.cell v1
 have s4:=hk4.size
 have HKW4:=Lib.hid (HKW3.out.trans hk4)
 have l4:w.heap.size < w4.heap.size:=by omega
 clear hk4
 go_wp2_with (first
  | (go_at_call 32;have q:=HKW4;clear q;refine (loadNone_calls (.inl rfl) a len cap _).mono ?_;rintro e w5 ⟨rfl,hk5⟩;have HKW5:=Lib.hid (HKW4.out.trans (show Keeps w4 w5 by (exact kp)));clear HKW4)
  | (go_at_call 32;have q:=HKW5;clear q;refine (loadNone_calls (.inr rfl) a len cap _).mono ?_;rintro e w6 ⟨rfl,hk6⟩;have z0:w6.cell? ⟨w5.heap.size,0,none⟩=some (.int .u8 0):=hk6.cell (by simp [go_sem]);have z1:w6.cell? ⟨w5.heap.size,1,none⟩=some (.int .u32 0):=hk6.cell (by simp [go_sem]);have HKW6:=Lib.hid (HKW5.out.trans (show Keeps w5 w6 by (exact kp)));have s6:=hk6.size;simp only [World.size_alloc] at s6;have l6:w5.heap.size < w6.heap.size:=(by omega);clear HKW5 hk6)
  | fail)
 go_ret
 exact ⟨rfl,by have hkw:=HKW6.out;(exact kp)⟩

set_option maxRecDepth 100000 in
theorem saveNil_lifted (os:Os) (started:os.Started) (H:Type) (enc:TypeId × Value → H) :
  ReturnsInHanded {} Tryz.checked os 5 .any (Rows.saveNilSpec.pre6 enc Tryz.prog Tryz.f5 Rows.saveNilRow.domain false) (Rows.saveNilSpec.post enc Tryz.prog Tryz.f5 false true false false):=by
 refine returnsInHanded_of_change (C:=Tryz.checked) own started (by kernel_rfl) Tryz.func5
  (ChangeSpec.witness6 (enc:=enc) (C:=Tryz.checked) false ⟨#[],#[.int .u8 0,.agg #[.int .u8 0,.int .u32 0],.slice none 0 0],[]⟩ 12 (by kernel_rfl) (by kernel_rfl) (by kernel_rfl) (by kernel_rfl)) ?_
 intro W base args ds gs before hval0 hW hcnd _
 have hval:∀ (j:Nat) t v,Tryz.f5.params[j]?=some t → args[j]?=some v → Value.okWide Tryz.prog W .any base t v:=hval0
 have hW':=hW
 obtain ⟨p,q,hA0,hV,rfl,hfz,hnd⟩:=hW
 have hA:DataW.TrodAll enc Tryz.prog W 0 (fun _=>true) true Tryz.f5.params.toList args.toList ds p:=hA0
 rw [Tryz.params5] at hA hval
 have hAk:=hA
 obtain ⟨v0,vs0,d0,ds0,p0,q0,hargs,rfl,rfl,h0,r0⟩:=trodAll_cons hA
 obtain ⟨v1,vs1,d1,ds1,p1,q1,rfl,rfl,rfl,h1,r1⟩:=trodAll_cons r0
 obtain ⟨v2,vs2,d2,ds2,p2,q2,rfl,rfl,rfl,h2,r2⟩:=trodAll_cons r1
 obtain ⟨rfl,rfl,rfl⟩:=trodAll_nil r2
 obtain rfl:args=#[v0,v1,v2]:=by cases args;simp_all
 obtain ⟨rfl,rfl⟩:=trodVars_none hV
 obtain ⟨a0,rfl,rfl,rfl,w0⟩:=open_int Tryz.underlying5 (hval 0 5 v0 rfl rfl) h0
 obtain ⟨a1,w1,rfl⟩:=open_edge (hval 1 26 v1 rfl rfl) h1
 obtain ⟨a2,len2,cap2,rfl⟩:=okWide_slice Tryz.underlying37 (hval 2 37 v2 rfl rfl)
 obtain ⟨rs2,w2⟩:=open_u8s h2
 clear hA0 hval0
 refine (saveNil_walk a0 a1 a2 len2 cap2 rs2 W w0 w1 w2).mono fun e W' ⟨he,bel⟩=>?_
 subst he
 exact ⟨_,rfl,_,_,_,[],_,[],hW',trodAll_mk1 (shut_bool Tryz.underlying4 _),trodAll_below laidOut bel _ _ _ _ (by kernel_rfl) hAk,rfl,Below.frame bel _,fun h=>by cases h⟩

set_option maxHeartbeats 8000000 in
theorem saveNil_over:Rows.saveNilRow.holds Tryz.pinned (OpenSpec.ofChange Rows.saveNilSpec):=
 OpenClaim.holds_of_wide 5 Tryz.f5 rfl rfl rfl rfl rfl rfl rfl ⟨rfl,rfl,rfl,rfl,rfl⟩ rfl rfl rfl rfl rfl (by as_aux_lemma=>kernel_rfl) Tryz.func5 (by unfold joinedFacts;(repeat' with_reducible refine Bool.and_eq_true_iff.2 ⟨?_,?_⟩);all_goals as_aux_lemma=>kernel_rfl)
  (of_decide_eq_true (by as_aux_lemma=>kernel_rfl)) (by unfold Func.isWrapper;first | (rw [if_pos (by decide +kernel)];kernel_rfl) | (rw [if_neg (by decide +kernel)];exact ⟨rfl,rfl⟩))
  (fun os started H enc _=>saveNil_lifted os started H enc)

theorem saveNil_proved:Rows.SaveNilSaid:=saveNil_over

end Go.Proofs.YtiifimnpmbfihaaGreat
