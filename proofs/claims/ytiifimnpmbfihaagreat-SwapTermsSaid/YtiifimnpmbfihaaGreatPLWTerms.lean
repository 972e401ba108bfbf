/-
  Proved: the statement SwapTerms, for every input.
-/
import Derived.Test.YtiifimnpmbfihaaGreatPLWTermsA
import Derived.Test.YtiifimnpmbfihaaGreatPLWTermsO
namespace Go.Proofs.YtiifimnpmbfihaaGreat
set_option linter.unusedSimpArgs false
set_option linter.unusedVariables false
set_option maxHeartbeats 600000
open Go.ChangeShapes Go.WideShapes Go.ChangeAt Go.RowKit

theorem swapTerms_walk (a1:Option Addr) (l1 cap1:Nat) (ps:List Int) (a2:Option Addr) (l2 cap2:Nat) (qs:List Int) (f g a b:Int) (w:World) (hps:IsInts w a1 l1 ps) (hqs:IsInts w a2 l2 qs) (_:(Lit.int .u8 f).wf=true) (_:(Lit.int .u8 g).wf=true) (ha:(Lit.int .u64 a).wf=true) (hb:(Lit.int .u64 b).wf=true) :
  Calls Tryz.prog 10 #[.slice a1 l1 cap1,.slice a2 l2 cap2,.int .u8 f,.int .u8 g,.int .u64 a,.int .u64 b] w fun e w'=>e=.returned (.bool true) ∧ Keeps w w':=by
 obtain ⟨rfl,hI,hwf⟩:=hps
 obtain ⟨rfl,hJ,hwf2⟩:=hqs
 have hmin:IntKind.u64.min=0:=rfl
 have hmax:IntKind.u64.max=18446744073709551615:=rfl
 have hau:0 ≤ a ∧ a ≤ 18446744073709551615:=by simp [Lit.wf,hmin,hmax] at ha;exact ha
 have hbu:0 ≤ b ∧ b ≤ 18446744073709551615:=by simp [Lit.wf,hmin,hmax] at hb;exact hb
 by_cases h:5 < ps.length ∨ qs.length ≠ ps.length ∨ permB ps=false ∨ permB qs=false ∨ f < 1 ∨ 5 < f ∨ g < 1 ∨ 5 < g
 ·exact swapTerms_out a1 cap1 ps a2 cap2 qs f g a b w hI hJ h
 ·have hp:permB ps=true:=by
   cases hp:permB ps with
   | true=>rfl
   | false=>exact absurd (.inr (.inr (.inl hp))) h
  have hq:permB qs=true:=by
   cases hq:permB qs with
   | true=>rfl
   | false=>exact absurd (.inr (.inr (.inr (.inl hq)))) h
  rw [hp,hq] at h
  have hl:qs.length=ps.length:=by omega
  rw [hl]
  exact swapTerms_in a1 cap1 ps a2 cap2 qs f g a b w hI hJ (by omega) hl hp hq (by omega) (by omega) hau.1 hau.2 hbu.1 hbu.2

set_option maxRecDepth 100000 in
theorem swapTerms_lifted (os:Os) (started:os.Started) (H:Type) (enc:TypeId × Value → H) :
  ReturnsInHanded {} Tryz.checked os 10 .any (Rows.swapTermsSpec.pre6 enc Tryz.prog Tryz.f10 Rows.swapTermsRow.domain false) (Rows.swapTermsSpec.post enc Tryz.prog Tryz.f10 false true false false):=by
 refine returnsInHanded_of_change (C:=Tryz.checked) own started (by kernel_rfl) Tryz.func10
  (ChangeSpec.witness6 (enc:=enc) (C:=Tryz.checked) false ⟨#[],#[.slice none 0 0,.slice none 0 0,.int .u8 0,.int .u8 0,.int .u64 0,.int .u64 0],[]⟩ 12 (by kernel_rfl) (by kernel_rfl) (by kernel_rfl) (by kernel_rfl)) ?_
 intro W base args ds gs before hval0 hW hcnd _
 have hval:∀ (j:Nat) t v,Tryz.f10.params[j]?=some t → args[j]?=some v → Value.okWide Tryz.prog W .any base t v:=hval0
 have hW':=hW
 obtain ⟨p,q,hA0,hV,rfl,hfz,hnd⟩:=hW
 have hA:DataW.TrodAll enc Tryz.prog W 0 (fun _=>true) true Tryz.f10.params.toList args.toList ds p:=hA0
 rw [Tryz.params10] at hA hval
 have hAk:=hA
 obtain ⟨v0,vs0,d0,ds0,p0,q0,hargs,rfl,rfl,h0,r0⟩:=trodAll_cons hA
 obtain ⟨v1,vs1,d1,ds1,p1,q1,rfl,rfl,rfl,h1,r1⟩:=trodAll_cons r0
 obtain ⟨v2,vs2,d2,ds2,p2,q2,rfl,rfl,rfl,h2,r2⟩:=trodAll_cons r1
 obtain ⟨v3,vs3,d3,ds3,p3,q3,rfl,rfl,rfl,h3,r3⟩:=trodAll_cons r2
 obtain ⟨v4,vs4,d4,ds4,p4,q4,rfl,rfl,rfl,h4,r4⟩:=trodAll_cons r3
 obtain ⟨v5,vs5,d5,ds5,p5,q5,rfl,rfl,rfl,h5,r5⟩:=trodAll_cons r4
 obtain ⟨rfl,rfl,rfl⟩:=trodAll_nil r5
 obtain rfl:args=#[v0,v1,v2,v3,v4,v5]:=by cases args;simp_all
 obtain ⟨rfl,rfl⟩:=trodVars_none hV
 obtain ⟨a0,len0,cap0,rfl⟩:=okWide_slice Tryz.underlying23 (hval 0 23 v0 rfl rfl)
 obtain ⟨rs0,w0⟩:=open_intRow h0
 obtain ⟨a1,len1,cap1,rfl⟩:=okWide_slice Tryz.underlying23 (hval 1 23 v1 rfl rfl)
 obtain ⟨rs1,w1⟩:=open_intRow h1
 obtain ⟨a2,rfl,rfl,rfl,w2⟩:=open_int Tryz.underlying5 (hval 2 5 v2 rfl rfl) h2
 obtain ⟨a3,rfl,rfl,rfl,w3⟩:=open_int Tryz.underlying5 (hval 3 5 v3 rfl rfl) h3
 obtain ⟨a4,rfl,rfl,rfl,w4⟩:=open_int Tryz.underlying76 (hval 4 76 v4 rfl rfl) h4
 obtain ⟨a5,rfl,rfl,rfl,w5⟩:=open_int Tryz.underlying76 (hval 5 76 v5 rfl rfl) h5
 clear hA0 hval0
 refine (swapTerms_walk a0 len0 cap0 rs0 a1 len1 cap1 rs1 a2 a3 a4 a5 W w0 w1 w2 w3 w4 w5).mono fun e W' ⟨he,bel⟩=>?_
 subst he
 exact ⟨_,rfl,_,_,_,[],_,[],hW',trodAll_mk1 (shut_bool Tryz.underlying4 _),trodAll_below laidOut bel _ _ _ _ (by kernel_rfl) hAk,rfl,Below.frame bel _,fun h=>by cases h⟩

set_option maxHeartbeats 8000000 in
theorem swapTerms_over:Rows.swapTermsRow.holds Tryz.pinned (OpenSpec.ofChange Rows.swapTermsSpec):=
 OpenClaim.holds_of_wide 10 Tryz.f10 rfl rfl rfl rfl rfl rfl rfl ⟨rfl,rfl,rfl,rfl,rfl⟩ rfl rfl rfl rfl rfl (by as_aux_lemma=>kernel_rfl) Tryz.func10 (by unfold joinedFacts;(repeat' with_reducible refine Bool.and_eq_true_iff.2 ⟨?_,?_⟩);all_goals as_aux_lemma=>kernel_rfl)
  (of_decide_eq_true (by as_aux_lemma=>kernel_rfl)) (by unfold Func.isWrapper;first | (rw [if_pos (by decide +kernel)];kernel_rfl) | (rw [if_neg (by decide +kernel)];exact ⟨rfl,rfl⟩))
  (fun os started H enc _=>swapTerms_lifted os started H enc)

theorem swapTerms_proved:Rows.SwapTermsSaid:=swapTerms_over

end Go.Proofs.YtiifimnpmbfihaaGreat
