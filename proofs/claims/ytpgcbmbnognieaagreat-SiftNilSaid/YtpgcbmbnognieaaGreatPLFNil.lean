/-
  Proved: the statement SiftNil, for every input.
-/
import Derived.Test.YtpgcbmbnognieaaGreatPLFAlive
import Derived.Test.YtpgcbmbnognieaaGreatRows
namespace Go.Proofs.YtpgcbmbnognieaaGreat
set_option maxRecDepth 1000000
set_option maxHeartbeats 8000000
set_option linter.unusedSimpArgs false
set_option linter.unusedVariables false
open Go.ChangeShapes Go.WideShapes Go.ChangeAt Go.RowKit

def NilOf (sp op:Option Addr):Prop:=sp=none∨(op=none∧∃ b,sp=some ⟨b,0,none⟩)

theorem siftFit_nil {sp op:Option Addr}(h:NilOf sp op)(w:World):Calls Tryz.prog 92 #[.pointer sp,.pointer op] w fun e w'=>e=.returned (.int .u8 2)∧w=w':=by
 rcases h with rfl|⟨rfl,b,rfl⟩
 ·go_enter Tryz.func92,Tryz.ntmps92
  go_wp2
  go_ret
  exact⟨rfl,rfl⟩
 ·go_enter Tryz.func92,Tryz.ntmps92
  go_wp2
  go_ret
  exact⟨rfl,rfl⟩

theorem sift_nil {sp op:Option Addr}(h:NilOf sp op)(v:Value)(g:Int)(w:World):Calls Tryz.prog 40 #[.pointer sp,.pointer op,v,.int .i64 g] w fun e w'=>e=.returned (.tuple #[.slice none 0 0,.int .u8 2])∧Keeps w w':=by
 have HF:=Lib.hid (fun(W:World)=>siftFit_nil h W)
 clear h
 go_enter Tryz.func40,Tryz.ntmps40
 go_wp2_with (first|(go_at_call 92;refine(HF.out _).mono ?_;rintro e w1 ⟨rfl,rfl⟩)|fail)
 go_ret2
 exact⟨rfl,by(exact kp)⟩

theorem least_nil {sp op:Option Addr}(h:NilOf sp op)(v:Value)(w:World):Calls Tryz.prog 35 #[.pointer sp,.pointer op,v] w fun e w'=>e=.returned (.tuple #[.slice none 0 0,.int .u8 2])∧Keeps w w':=by
 have HF:=Lib.hid (fun(W:World)=>siftFit_nil h W)
 clear h
 go_enter Tryz.func35,Tryz.ntmps35
 go_wp2_with (first|(go_at_call 92;refine(HF.out _).mono ?_;rintro e w1 ⟨rfl,rfl⟩)|fail)
 go_ret2
 exact⟨rfl,by(exact kp)⟩

theorem siftNil_walk (a0:Option Addr)(len0 cap0:Nat)(rs:List (Int×Edge))(gr:Int)(w:World)(hr:IsRootRow w a0 len0 rs)(_:(Lit.int .i64 gr).wf=true) :
  Calls Tryz.prog 8 #[.slice a0 len0 cap0,.int .i64 gr] w fun e w'=>e=.returned (.bool true)∧Keeps w w':=by
 have hp:permB [0,1]=true:=by decide
 have HST:=Lib.hid (fun(W:World) (a:Option Addr) (hI:IntsAt W a [0,1])=>stage_calls 5 a 2 [0,1] W hI hp (by decide) (by decide))
 have HR:=Lib.hid hr
 obtain⟨i5,hi5,hz50,hz51,hz52⟩:=info_parts info_root
 clear hp hr
 by_cases h9:9<len0
 ·go_enter Tryz.func8,Tryz.ntmps8
  go_wp2_with (first|(go_at_call 31;refine(l27_alive _).mono ?_;rintro e w1 ⟨rfl,hk1⟩)|fail)
  have hI:IntsAt (w1.alloc (.cells #[.int .i64 0,.int .i64 1] 3)) (some ⟨w1.heap.size,0,none⟩) [0,1]:=fun i x hx=>by
   rcases i with _|_|i
   ·simp at hx;subst hx;exact⟨_,0,rfl,by simp [go_sem]⟩
   ·simp at hx;subst hx;exact⟨_,0,rfl,by simp [go_sem]⟩
   ·simp at hx
  refine(HST.out _ _ hI).mono ?_
  rintro e w2 ⟨sb,ob,F,Fo,rfl,hk2,_,_,_,_,_⟩
  go_wp2_with fail
  go_ret
  exact⟨rfl,by(exact kp)⟩
 ·go_enter Tryz.func8,Tryz.ntmps8
  go_wp2_with (first|(go_at_call 31;refine(l27_alive _).mono ?_;rintro e w1 ⟨rfl,hk1⟩)|fail)
  have hI:IntsAt (w1.alloc (.cells #[.int .i64 0,.int .i64 1] 3)) (some ⟨w1.heap.size,0,none⟩) [0,1]:=fun i x hx=>by
   rcases i with _|_|i
   ·simp at hx;subst hx;exact⟨_,0,rfl,by simp [go_sem]⟩
   ·simp at hx;subst hx;exact⟨_,0,rfl,by simp [go_sem]⟩
   ·simp at hx
  refine(HST.out _ _ hI).mono ?_
  rintro e w2 ⟨sb,ob,F,Fo,rfl,hk2,_,_,_,_,_⟩
  have hk12:Keeps w w2:=by(exact kp)
  have HK12:=Lib.hid hk12
  clear hI hk2 hk1 hk12
  go_wp2_with fail
  go_loopg [8,9] len0 (fun gk s8 s9 wr=>∃ (d:Nat) (v8:Value),s8=v8∧s9=.int .i64 (d:Int)∧d+gk=len0∧wr.ownsRow w.heap.size 80 3 v8 d ((rs.take d).flatMap rootCs)∧Keeps w wr)
  case atStart=>exact⟨0,_,rfl,rfl,by omega,World.ownsRow_nil _ _ _ _,HK12.out⟩
  case round=>
   obtain⟨d,v8,rfl,rfl,hd,h8,hk⟩:=hrel
   obtain⟨a8,cap8,rfl,hs8⟩:=owns_slice h8
   have H8:=Lib.hid h8
   clear h8 hs8
   by_cases hlt:d<len0
   ·obtain⟨r,hx⟩:∃ b,rs[d]?=some b:=⟨_,List.getElem?_eq_getElem (by rw [HR.out.1];exact hlt)⟩
    obtain⟨hf8,hok,b,off,rfl,c0,c1,c2⟩:=HR.out.2 d r hx
    have HTK:=Lib.hid (take_snoc hx)
    obtain⟨f,e⟩:=r
    dsimp only at c0 c1 c2
    have cb0:=c0
    replace c0:=hk.cell c0
    replace c1:=hk.cell c1
    replace c2:=hk.cell c2
    have szk:=hk.size
    have q1:d+1≤maxLen:=by unfold maxLen;omega
    have lb:b<w.heap.size:=by have:=lt_of_cell cb0;simpa using this
    have nb8:(Value.slice a8 d cap8).ownBlock≠some b:=fun hh=>by have:=owns_from H8.out hh;omega
    clear hx hf8 hok cb0
    go_wp2_with fail
    go_region_held3 (fun w'=>w'.cell? ⟨b,off+d*3,none⟩=some (.int .u8 f)∧w'.cell? ⟨b,off+d*3+1,none⟩=some (.int .u8 e.tag)∧w'.cell? ⟨b,off+d*3+2,none⟩=some (.int .u32 e.to)) (go_keep) ((refine step_append_own rfl (.tmp 44) (.tmp 56) 63 rfl w.heap.size 80 i5 _ 3 12 Tryz.underlying63 hi5 hz50 hz51 hz52 rfl (by decide) (.slice a8 d cap8) d ((rs.take d).flatMap rootCs) rfl ?_ _ 1 1 (rootCs (f,e)) rfl rfl ?_ ?_ ?_ ?_ ?_ ?_;exact Keeps.owns (show Keeps wr _ by(exact kp)) H8.out;(first|exact cell_new _ _ _ _ (by simp)|exact cell_newd _ _ _ _ (by simp));(intro u hu;simp [rootCs] at hu;rcases hu with rfl|rfl|rfl<;>rfl);exact q1;omega;(simp;omega);intro v' w3 hown3 hgrow hfresh;have t0:=grown_cell (b:=b) (o:=off+d*3) (v:=.int .u8 f) hgrow nb8 (by go_keep);have t1:=grown_cell (b:=b) (o:=off+d*3+1) (v:=.int .u8 e.tag) hgrow nb8 (by go_keep);have t2:=grown_cell (b:=b) (o:=off+d*3+2) (v:=.int .u32 e.to) hgrow nb8 (by go_keep)))
    all_goals(try go_wp2_with fail)
    all_goals go_roundg (gk-1)
    case rel=>exact⟨d+1,v',rfl,by simp,by omega,by rw [HTK.out,List.flatMap_append];simpa using hown3,hk.new (Upd.grown (by repeat (first|exact Upd.refl _ _|refine Upd.alloc ?_ _|refine Upd.drew ?_)) hgrow (fun k hk=>.inl hk)) (fun k hk2=>owns_from H8.out hk2)⟩
    case measure=>omega
   ·have HK:=Lib.hid hk
    clear H8 hk
    have HSZ:=Lib.hid (fun(v:Value) (W:World)=>siftSize_nil v W)
    have HS1:=Lib.hid (fun(v:Value) (W:World)=>sift_nil (sp:=none) (op:=some ⟨ob,0,none⟩) (.inl rfl) v gr W)
    have HS2:=Lib.hid (fun(v:Value) (W:World)=>sift_nil (sp:=some ⟨sb,0,none⟩) (op:=none) (.inr ⟨rfl,sb,rfl⟩) v gr W)
    have HL1:=Lib.hid (fun(v:Value) (W:World)=>least_nil (sp:=none) (op:=some ⟨ob,0,none⟩) (.inl rfl) v W)
    have HL2:=Lib.hid (fun(v:Value) (W:World)=>least_nil (sp:=some ⟨sb,0,none⟩) (op:=none) (.inr ⟨rfl,sb,rfl⟩) v W)
    go_wp2_with fail
    refine(HSZ.out _ _).mono ?_
    rintro e w3 ⟨rfl,rfl⟩
    go_wp2_with fail
    refine(HS1.out _ _).mono ?_
    rintro e w4 ⟨rfl,hk4⟩
    go_wp2_with fail
    refine(HS2.out _ _).mono ?_
    rintro e w5 ⟨rfl,hk5⟩
    go_wp2_with fail
    refine(HL1.out _ _).mono ?_
    rintro e w6 ⟨rfl,hk6⟩
    go_wp2_with fail
    refine(HL2.out _ _).mono ?_
    rintro e w7 ⟨rfl,hk7⟩
    have hkf:Keeps w w7:=(((HK.out.trans hk4).trans hk5).trans hk6).trans hk7
    go_wp2_with fail
    go_ret
    exact⟨rfl,hkf⟩

theorem siftNil_lifted (os:Os)(started:os.Started)(H:Type)(enc:TypeId×Value→H) :
  ReturnsInHanded {} Tryz.checked os 8 .any (Rows.siftNilSpec.pre6 enc Tryz.prog Tryz.f8 Rows.siftNilRow.domain false) (Rows.siftNilSpec.post enc Tryz.prog Tryz.f8 false true false false):=by
 refine returnsInHanded_of_change (C:=Tryz.checked) own started (by kernel_rfl) Tryz.func8
  (ChangeSpec.witness6 (enc:=enc) (C:=Tryz.checked) false ⟨#[],#[.slice none 0 0,.int .i64 0],[]⟩ 12 (by kernel_rfl) (by kernel_rfl) (by kernel_rfl) (by kernel_rfl)) ?_
 intro W base args ds gs before hval0 hW hcnd _
 have hval:∀ (j:Nat) t v,Tryz.f8.params[j]?=some t→args[j]?=some v→Value.okWide Tryz.prog W .any base t v:=hval0
 have hW':=hW
 obtain⟨p,q,hA0,hV,rfl,hfz,hnd⟩:=hW
 have hA:DataW.TrodAll enc Tryz.prog W 0 (fun _=>true) true Tryz.f8.params.toList args.toList ds p:=hA0
 rw [Tryz.params8] at hA hval
 have hAk:=hA
 obtain⟨v0,vs0,d0,ds0,p0,q0,hargs,rfl,rfl,h0,r0⟩:=trodAll_cons hA
 obtain⟨v1,vs1,d1,ds1,p1,q1,rfl,rfl,rfl,h1,r1⟩:=trodAll_cons r0
 obtain⟨rfl,rfl,rfl⟩:=trodAll_nil r1
 obtain rfl:args=#[v0,v1]:=by cases args;simp_all
 obtain⟨rfl,rfl⟩:=trodVars_none hV
 obtain⟨a0,len0,cap0,rfl⟩:=okWide_slice Tryz.underlying81 (hval 0 81 v0 rfl rfl)
 obtain⟨rs0,w0⟩:=open_root27 h0
 obtain⟨a1,rfl,rfl,rfl,w1⟩:=open_int Tryz.underlying3 (hval 1 3 v1 rfl rfl) h1
 clear hA0 hval0
 refine(siftNil_walk a0 len0 cap0 rs0 a1 W w0 w1).mono fun e W' ⟨he,bel⟩=>?_
 subst he
 exact⟨_,rfl,_,_,_,[],_,[],hW',trodAll_mk1 (shut_bool Tryz.underlying4 _),trodAll_below laidOut bel _ _ _ _ (by kernel_rfl) hAk,rfl,Below.frame bel _,fun h=>by cases h⟩

theorem siftNil_over:Rows.siftNilRow.holds Tryz.pinned (OpenSpec.ofChange Rows.siftNilSpec):=
 OpenClaim.holds_of_wide 8 Tryz.f8 rfl rfl rfl rfl rfl rfl rfl ⟨rfl,rfl,rfl,rfl,rfl⟩ rfl rfl rfl rfl rfl (by as_aux_lemma=>kernel_rfl) Tryz.func8 (by unfold joinedFacts;(repeat' with_reducible refine Bool.and_eq_true_iff.2 ⟨?_,?_⟩);all_goals as_aux_lemma=>kernel_rfl)
  (of_decide_eq_true (by as_aux_lemma=>kernel_rfl)) (by unfold Func.isWrapper;first|(rw [if_pos (by decide +kernel)];kernel_rfl)|(rw [if_neg (by decide +kernel)];exact⟨rfl,rfl⟩))
  (fun os started H enc _=>siftNil_lifted os started H enc)

theorem siftNil_proved:Rows.SiftNilSaid:=siftNil_over

end Go.Proofs.YtpgcbmbnognieaaGreat
