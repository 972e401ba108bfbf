/-
  save.written: all bytes of an edge.
-/
import Derived.Test.YtfpjogpjocedaaaGreatPSaveN
import Derived.Test.YtfpjogpjocedaaaGreatPTextE
namespace Go.Proofs.YtfpjogpjocedaaaGreat
set_option linter.unusedSimpArgs false
set_option linter.unusedVariables false
set_option maxHeartbeats 600000
open Go Go.RowKit

theorem nodes_calls {base:Nat} {F:Nat → Prop} {sb pb mb:Nat} {f:Int} {M:St}:∀ (k:Nat) (e:Edge) (S:List Int) (w:World),e.ok → PenCtx base F w sb pb mb f M S → Under M e.to k →
  Calls Tryz.prog 104 #[.pointer (some ⟨pb,0,none⟩),.agg #[.int .u8 e.tag,.int .u32 e.to]] w (NodesOut base F sb pb mb f M e.to S w):=by
 intro k
 induction k with
 | zero=>
  intro e S w he h hu
  have hno:=hu.zero h.rep.wf
  exact nodes_step e.tag e.to he.2 h (fun r hr=>by rw [hno] at hr;cases hr) (fun r hr=>by rw [hno] at hr;cases hr)
 | succ k ih=>
  intro e S w he h hu
  refine nodes_step e.tag e.to he.2 h (fun r hr S W hW=>?_) (fun r hr S W hW=>?_)
  ·exact ih r.lo S W (h.rep.fit hr).lo hW (hu.top h.rep.wf hr).1
  ·exact ih r.hi S W (h.rep.fit hr).hi hW (hu.top h.rep.wf hr).2

theorem Upd.of_row {w w':World} {v:Value} (h:w.grownBy w' v.ownBlock):Upd (fun k=>v.ownBlock=some k) w w':=⟨h.os,h.tape,h.output,h.size,fun i hi hne=>h.block i hi (fun e=>hne e.symm)⟩

theorem BsRow.lower {b1 b2:Nat} {w:World} {v:Value} {bs:List Int} (h:BsRow b1 w v bs) (hb:b2 ≤ b1):BsRow b2 w v bs:=by
 refine ⟨h.1,?_⟩
 rcases h.2 with hn | ⟨g,cap,cur,e,hbg,rest⟩
 ·exact .inl hn
 ·exact .inr ⟨g,cap,cur,e,by omega,rest⟩

theorem flat_snoc (ps:List Int) (d:Nat) (x:Int) (hx:ps[d]?=some x):(ps.take (d + 1)).flatMap (fun x:Int=>putB x.toNat)=(ps.take d).flatMap (fun x:Int=>putB x.toNat) ++ putB x.toNat:=by
 rw [List.take_add_one,hx,List.flatMap_append]
 simp

set_option maxRecDepth 100000 in
set_option maxHeartbeats 1000000 in
theorem written_calls {F:Nat → Prop} {w:World} {sb:Nat} {M:St} (h:StoreRep F w sb M) (a:Option Addr) (cap:Nat) (ps:List Int) (hI:IntsAt w a ps) (hps:∀ x ∈ ps,0 ≤ x ∧ x ≤ 16) (hpl:ps.length ≤ 16) (f:Int) (hf:0 ≤ f ∧ f ≤ 255) (e:Edge) (he:e.ok) (hin:e.to < 2 ∨ look M.cs e.to ≠ none) :
  Calls Tryz.prog 63 #[.pointer (some ⟨sb,0,none⟩),.slice a ps.length cap,.int .u8 f,.agg #[.int .u8 e.tag,.int .u32 e.to]] w fun r w'=>∃ v,r=.returned v ∧ BsRow w.heap.size w' v (saveB M ps f e) ∧ Keeps w w':=by
 have HR:=Lib.hid h
 have HI:=Lib.hid hI
 have HPS:=Lib.hid hps
 have hfa:FitA M:=fun _ _ hl=>h.fit hl
 have HIN:Hid (e.to < 2 ∨ e.to ∈ numM M e.to []):=Lib.hid (hin.imp (fun hh=>hh) (numM_here h.wf hfa (NumOk.nil M)))
 have HUN:=Lib.hid (under_all h.wf hfa e.to (k:=16) (Nat.le_refl _))
 have n0:=h.wf.n0
 have n16:=h.wf.n16
 obtain ⟨N,hN⟩:∃ N,N=ps.length:=⟨_,rfl⟩
 have HNN:=Lib.hid hN
 rw [← hN] at hpl ⊢
 clear h hI hps hin hN
 obtain ⟨nn,hnn⟩:∃ n:Nat,M.n=(n:Int):=⟨M.n.toNat,by omega⟩
 obtain ⟨fn,rfl⟩:∃ n:Nat,f=(n:Int):=⟨f.toNat,by omega⟩
 obtain ⟨W1,hW1⟩:∃ W1,W1=((w.alloc (.cells #[.int .u8 e.tag,.int .u32 e.to] 37)).alloc (.map #[] 0)).alloc (.cells #[.pointer (some ⟨sb,0,none⟩),.int .u8 (fn:Int),.slice none 0 0,.map (some (w.heap.size + 1))] 165):=⟨_,rfl⟩
 have hk0:Keeps w W1:=by rw [hW1];exact (((Keeps.refl w).alloc _).alloc _).alloc _
 have hE0:IsBlk W1 37 w.heap.size:=by rw [hW1];exact ((IsBlk.new w _ _).alloc _).alloc _
 have nE1:w.heap.size ≠ w.heap.size + 1 + 1:=by omega
 have nE2:some (w.heap.size + 1) ≠ some w.heap.size:=fun hh=>by have:=Option.some.inj hh;omega
 have q0:W1.cell? ⟨w.heap.size,0,none⟩=some (.int .u8 e.tag):=by rw [hW1];simp [go_sem]
 have q1:W1.cell? ⟨w.heap.size,1,none⟩=some (.int .u32 e.to):=by rw [hW1];simp [go_sem]
 have HC0:Hid (PenCtx w.heap.size F W1 sb (w.heap.size + 1 + 1) (w.heap.size + 1) (fn:Int) M []):=Lib.hid (by
  refine ⟨HR.out.keeps hk0,⟨⟨.slice none 0 0,?_,BsRow.nil _ _⟩,by omega⟩,⟨_,?_,NumsD.empty⟩,NumOk.nil M,HR.out.lt,by omega⟩
  ·rw [hW1]
   have:=heap_alloc_new ((w.alloc (.cells #[.int .u8 e.tag,.int .u32 e.to] 37)).alloc (.map #[] 0)) (.cells #[.pointer (some ⟨sb,0,none⟩),.int .u8 (fn:Int),.slice none 0 0,.map (some (w.heap.size + 1))] 165)
   simpa using this
  ·rw [hW1]
   have:=(World.ownsMap_made (H:=Unit) (w.alloc (.cells #[.int .u8 e.tag,.int .u32 e.to] 37)) Tryz.prog 35 (plainElem (H:=Unit) Tryz.prog 60)).alloc (.cells #[.pointer (some ⟨sb,0,none⟩),.int .u8 (fn:Int),.slice none 0 0,.map (some (w.heap.size + 1))] 165)
   simpa using this)
 have HV:=Lib.hid (fun (W:World) (hW:Keeps w W)=>by
  have:=store_vars (HR.out.keeps hW)
  rw [hnn] at this
  exact this)
 have HL1:=Lib.hid (putB_len10 (n:=nn) (by omega))
 have HL2:=Lib.hid (putB_len10 (n:=fn) (by omega))
 have hn16:nn ≤ 16:=by omega
 have hf255:fn ≤ 255:=by omega
 have HNV:=Lib.hid hnn
 clear hnn
 have hmm:=@run_makeMap Tryz.prog
 go_enter Tryz.func63,Tryz.ntmps63
 go_wp2_with (first
  | (go_at_call 104;rw [← hW1];clear hmm;refine (nodes_calls 16 e [] _ he HC0.out HUN.out).mono ?_;rintro e1 w2 ⟨rfl,hx,hu⟩;have z0:=hu.pen_cell hE0 (by decide) nE1 nE2 q0;have z1:=hu.pen_cell hE0 (by decide) nE1 nE2 q1;have hE2:=hE0.pens hu (by decide) nE1 nE2;have HX2:=Lib.hid hx;have HK2:=Lib.hid (hu.pen_keeps (by omega) (fun k hk=>by cases hk;omega) hk0 (Nat.le_refl _));clear hx hu HC0 hE0 q0 q1 nE2 hk0 hW1)
  | (go_at_call 105;refine (pen_edge HX2.out.pen HX2.out.map e he (by have:=recsB_len (f:=(fn:Int)) HX2.out.fit HX2.out.few;have:=HX2.out.few;omega) HIN.out HX2.out.few).mono ?_;rintro e1 w3 ⟨rfl,hp,hu⟩;have HP3:=Lib.hid hp;have HM3:=Lib.hid (HX2.out.map.pens hu (by omega));have HFEW:=Lib.hid HX2.out.few;have HLEN:=Lib.hid (recsB_len (f:=(fn:Int)) HX2.out.fit HX2.out.few);have HK3:=Lib.hid (hu.pen_keeps (by omega) (fun k hk=>by cases hk) HK2.out (Nat.le_refl _));clear hp hu HX2 HK2 z0 z1 hE2)
  | (go_at_call 44;have HK4:=Lib.hid (HK3.out.alloc (.cells #[.pointer none,.int .u8 0,.slice none 0 0,.map none] 165));refine (HV.out _ HK4.out).mono ?_;rintro e1 w4 ⟨rfl,rfl⟩;have HP4:Hid (Pen w3.heap.size (w3.alloc (.cells #[.pointer none,.int .u8 0,.slice none 0 0,.map none] 165)) w3.heap.size (.pointer none) (.int .u8 0) (.map none) []):=Lib.hid ⟨⟨_,heap_alloc_new w3 _,BsRow.nil _ _⟩,Nat.le_refl _⟩;have HK34:=Lib.hid ((Keeps.refl w3).alloc (.cells #[.pointer none,.int .u8 0,.slice none 0 0,.map none] 165)))
  | (go_at_call 106;have q:=HP4;clear q;refine (pen_num HP4.out nn (by omega) (by simp)).mono ?_;rintro e1 w5 ⟨rfl,hp,hu⟩;have HP5:=Lib.hid hp;have HK35:=Lib.hid (hu.pen_keeps (Nat.le_refl _) (fun k hk=>by cases hk) HK34.out (Nat.le_refl _));clear hp hu HP4 HK34 HK4)
  | (go_at_call 106;have q:=HP5;clear q;refine (pen_num HP5.out fn (by omega) (by have:=HL1.out;simp only [List.length_append,List.length_nil];omega)).mono ?_;rintro e1 w6 ⟨rfl,hp,hu⟩;have HP6:=Lib.hid hp;have HK36:=Lib.hid (hu.pen_keeps (Nat.le_refl _) (fun k hk=>by cases hk) HK35.out (Nat.le_refl _));clear hp hu HP5 HK35)
  | fail)
 go_loopg [37] N (fun gk s37 wr=>∃ d:Nat,s37=.int .i64 (d:Int) ∧ d + gk=N ∧ Pen w3.heap.size wr w3.heap.size (.pointer none) (.int .u8 0) (.map none) ([] ++ putB nn ++ putB fn ++ (ps.take d).flatMap (fun x:Int=>putB x.toNat)) ∧ Keeps w3 wr)
 case atStart=>exact ⟨0,rfl,by omega,by rw [List.take_zero,List.flatMap_nil,List.append_nil];exact HP6.out,HK36.out⟩
 case round=>
  obtain ⟨d,rfl,hd,hp,hk⟩:=hrel
  have hfl:((ps.take d).flatMap (fun x:Int=>putB x.toNat)).length ≤ 10 * (ps.take d).length:=flat_len (fun x:Int=>putB x.toNat) 10 (ps.take d) (fun x hx=>putB_len10 (by have:=HPS.out x (List.mem_of_mem_take hx);omega))
  have hfl2:(ps.take d).length ≤ 16:=by rw [List.length_take];omega
  have HFL:Hid (([] ++ putB nn ++ putB fn ++ (ps.take d).flatMap (fun x:Int=>putB x.toNat)).length ≤ 200):=Lib.hid (by have:=HL1.out;have:=HL2.out;simp only [List.length_append,List.length_nil];omega)
  clear hfl hfl2
  by_cases hlt:d < N
  ·obtain ⟨x,hx⟩:∃ x,ps[d]?=some x:=⟨_,List.getElem?_eq_getElem (by rw [← HNN.out];exact hlt)⟩
   have hxr:=HPS.out x (List.mem_of_getElem? hx)
   obtain ⟨b,off,rfl,c0⟩:=HI.out d x hx
   replace c0:=(HK3.out.trans hk).cell c0
   obtain ⟨xn,rfl⟩:∃ n:Nat,x=(n:Int):=⟨x.toNat,by omega⟩
   have hxn:xn ≤ 16:=by omega
   have HST:=Lib.hid (flat_snoc ps d _ hx)
   have HP7:=Lib.hid hp
   have HK7:=Lib.hid hk
   have i0:(0:Int) ≤ (d:Int):=by omega
   have i1:(d:Int) < (N:Int):=by omega
   clear hx hp hk hxr
   go_wp2_with (first
    | (go_at_call 106;refine (pen_num HP7.out xn (by omega) (by have:=HFL.out;omega)).mono ?_;rintro e1 w8 ⟨rfl,hp,hu⟩;have HP8:=Lib.hid hp;have HK8:=Lib.hid (hu.pen_keeps (Nat.le_refl _) (fun k hk=>by cases hk) HK7.out (Nat.le_refl _));clear hp hu HP7)
    | fail)
   go_roundg (gk - 1)
   case rel=>exact ⟨d + 1,by simp,by omega,by rw [HST.out,← List.append_assoc];exact HP8.out,HK8.out⟩
   case measure=>omega
  ·have hdN:d=N:=by omega
   subst hdN
   have HTK:Hid (ps.take d=ps):=Lib.hid (by rw [HNN.out,List.take_length])
   have HP7:=Lib.hid hp
   have HK7:=Lib.hid hk
   have x3:=(HP3.out.keeps hk).cell.2.2
   obtain ⟨D,own7,nums7⟩:=HM3.out.keeps hk
   obtain ⟨N2,hN2⟩:∃ N2,N2=(numM M e.to []).length:=⟨_,rfl⟩
   have hlen7:=own7.len Tryz.underlying163 3
   rw [nums7.size,← hN2] at hlen7
   have hn2:N2 ≤ 1048576:=by rw [hN2];exact HFEW.out
   have HN2:=Lib.hid hN2
   have hL3:=Lib.hid (putB_len10 (n:=N2) (by omega))
   clear hp hk own7 nums7 hN2
   have g1:¬ ((d:Int) < (d:Int)):=by omega
   go_wp2_with (first
    | (go_at_call 106;refine (pen_num HP7.out N2 (by omega) (by have:=HFL.out;omega)).mono ?_;rintro e1 w8 ⟨rfl,hp,hu⟩;have HP8:=Lib.hid hp;have HK8:=Lib.hid (hu.pen_keeps (Nat.le_refl _) (fun k hk=>by cases hk) HK7.out (Nat.le_refl _));clear hp hu HP7)
    | fail)
   obtain ⟨⟨hv,h81,h82⟩,-⟩:=HP8.out
   obtain ⟨⟨bv,b81,b82⟩,-⟩:=HP3.out.keeps HK8.out
   have y1:w8.cell? ⟨w3.heap.size,2,none⟩=some hv:=by rw [cell_of_row w8 w3.heap.size 2 _ _ _ h81];rfl
   have y2:w8.cell? ⟨w.heap.size + 1 + 1,2,none⟩=some bv:=by rw [cell_of_row w8 (w.heap.size + 1 + 1) 2 _ _ _ b81];rfl
   have H82:=Lib.hid h82
   have B82:=Lib.hid b82
   have HK08:=Lib.hid (HK3.out.trans HK8.out)
   have hs8:=HK8.out.size
   have hs3:=HK3.out.size
   have HLH:Hid (([] ++ putB nn ++ putB fn ++ (ps.take d).flatMap (fun x:Int=>putB x.toNat) ++ putB N2).length ≤ 300):=Lib.hid (by have:=HFL.out;have:=hL3.out;rw [List.length_append];omega)
   have HLB:Hid ((recsB M (fn:Int) (numM M e.to []) ++ edgeB (fn:Int) (numM M e.to []) e).length ≤ 70000000):=Lib.hid (by
    have h1:=HLEN.out
    have h2:=HFEW.out
    have h3:=edgeB_len (f:=(fn:Int)) he h2
    rw [List.length_append]
    omega)
   have HEQ:Hid (([] ++ putB nn ++ putB fn ++ (ps.take d).flatMap (fun x:Int=>putB x.toNat) ++ putB N2) ++ (recsB M (fn:Int) (numM M e.to []) ++ edgeB (fn:Int) (numM M e.to []) e)=saveB M ps (fn:Int) e):=Lib.hid (by
    unfold saveB
    rw [HTK.out,HNV.out,HN2.out]
    simp only [List.nil_append,List.append_assoc,Int.toNat_natCast])
   clear h81 h82 b81 b82
   refine wp_region_head 8 #[true,true,true,true,true,true,true,true,false,false] (by kernel_rfl) (by kernel_rfl) ?_
   simp only [List.take_succ_cons,List.take_zero,List.drop_succ_cons,List.drop_zero]
   repeat still_step
   refine wpStill_nil ?_
   refine wpAny_ready (fuel:=1) (rs:=[8]) (by kernel_rfl) (by decide) (AllReady.cons rfl (fun K hK=>?_) AllReady.nil)
   refine wpB_append_op (.tmp 57) (.tmp 61) rfl w3.heap.size w.heap.size hv bv _ _ rfl rfl (H82.out.keeps ((Keeps.refl _).drew)) (B82.out.keeps ((Keeps.refl _).drew)) (by have:=edgeB_pos (fn:Int) (numM M e.to []) e;rw [List.length_append];omega) (by have:=HLH.out;have:=HLB.out;omega) (by show w3.heap.size ≤ w8.heap.size;omega) ?_
   intro v9 w9 hr9 hg9
   have HR9:=Lib.hid hr9
   have HG9:=Lib.hid hg9
   clear hr9 hg9
   refine hK _ _ ?_
   clear hK K
   refine wpAny_ready (rs:=[9]) (by kernel_rfl) (by decide) (AllReady.cons rfl (fun K hK=>?_) AllReady.nil)
   go_simp
   refine hK _ _ ?_
   clear hK K
   refine wpAny_done (by kernel_rfl) ?_ _
   go_wp2_with fail
   go_ret
   refine ⟨v9,rfl,?_,?_⟩
   ·rw [← HEQ.out]
    exact HR9.out.lower hs3
   ·refine (HK08.out.drew).new (F:=fun k=>hv.ownBlock=some k) (Upd.of_row HG9.out) (fun k hk=>?_)
    have:=row_from H82.out hk
    omega

theorem perm_range2 {ps:List Int} (h:permB ps=true):ps.length ≤ 16 ∧ ∀ x ∈ ps,0 ≤ x ∧ x ≤ 16:=by
 obtain ⟨h1,h2,h3⟩:=permB_iff.1 h
 refine ⟨h1,fun x hx=>?_⟩
 have:=h2 x hx
 omega

theorem kRight_lead {M:St} {f:Int} {e:Edge} {l:Int} (h:kRight M f e l=true):M.leads f e l=true:=by
 unfold kRight at h
 split at h
 ·rename_i h1;rw [h1];exact h
 ·split at h
  ·rename_i h1;rw [h1];exact h
  ·split at h
   ·rename_i h1;rw [h1];exact right_leads h
   ·split at h
    ·rename_i h1;rw [h1];exact right_leads h
    ·split at h
     ·rename_i h1;rw [h1];exact right_leads h
     ·cases h

set_option maxRecDepth 100000 in
theorem saveFit_calls {F Fo:Nat → Prop} {w:World} {sb ob:Nat} {M:St} {ps:List Int} (h:StoreRep F w sb M) (ho:OrdRep Fo w ob ps) :
  Calls Tryz.prog 36 #[.pointer (some ⟨sb,0,none⟩),.pointer (some ⟨ob,0,none⟩)] w fun e w'=>e=.returned (.int .u8 (if M.n=(ps.length:Int) then 0 else 1)) ∧ Keeps w w':=by
 have HV:=Lib.hid (fun (W:World) (hW:Keeps w W)=>store_vars (h.keeps hW))
 have HO:=Lib.hid (fun (W:World) (hW:Keeps w W)=>ordVars_calls (ho.keeps hW))
 have hn0:=h.wf.n0
 have hn16:=h.wf.n16
 have hp16:=ho.le
 obtain ⟨N,hN⟩:∃ N,N=ps.length:=⟨_,rfl⟩
 obtain ⟨n,hn⟩:∃ n,n=M.n:=⟨_,rfl⟩
 rw [← hN] at HO hp16 ⊢
 rw [← hn] at HV hn0 hn16 ⊢
 clear h ho hN hn
 by_cases he:n=(N:Int)
 ·rw [if_pos he]
  subst he
  go_enter Tryz.func36,Tryz.ntmps36
  go_wp2_with (first | (go_at_call 44;refine (HV.out _ (by (exact kp))).mono ?_;rintro e' w' ⟨rfl,rfl⟩) | (go_at_call 38;refine (HO.out _ (by (exact kp))).mono ?_;rintro e' w' ⟨rfl,rfl⟩) | fail)
  go_ret
  exact ⟨rfl,by (exact kp)⟩
 ·rw [if_neg he]
  have g1:(n != (N:Int))=true:=by simp [he]
  go_enter Tryz.func36,Tryz.ntmps36
  go_wp2_with (first | (go_at_call 44;refine (HV.out _ (by (exact kp))).mono ?_;rintro e' w' ⟨rfl,rfl⟩) | (go_at_call 38;refine (HO.out _ (by (exact kp))).mono ?_;rintro e' w' ⟨rfl,rfl⟩) | fail)
  go_ret
  exact ⟨rfl,by (exact kp)⟩

noncomputable def saveCode (M:St) (n:Nat) (f:Int) (e:Edge):Int:=if M.n=(n:Int) then (if isFormB f=true then (if kRight M f e 0=true then 0 else 1) else 4) else 1

set_option maxRecDepth 100000 in
set_option maxHeartbeats 1000000 in
theorem save_calls {F Fo:Nat → Prop} {w:World} {sb ob:Nat} {M:St} {ps:List Int} (h:StoreRep F w sb M) (ho:OrdRep Fo w ob ps) (f:Int) (hf:0 ≤ f ∧ f ≤ 255) (e:Edge) (he:e.ok) :
  Calls Tryz.prog 25 #[.pointer (some ⟨sb,0,none⟩),.pointer (some ⟨ob,0,none⟩),.int .u8 f,.agg #[.int .u8 e.tag,.int .u32 e.to]] w fun r w'=>(saveCode M ps.length f e=0 ∧ ∃ v,r=.returned (.tuple #[v,.int .u8 0]) ∧ BsRow w.heap.size w' v (saveB M ps f e) ∧ Keeps w w') ∨ (saveCode M ps.length f e ≠ 0 ∧ r=.returned (.tuple #[.slice none 0 0,.int .u8 (saveCode M ps.length f e)]) ∧ Keeps w w'):=by
 have HF:=Lib.hid (fun (W:World) (hW:Keeps w W)=>saveFit_calls (h.keeps hW) (ho.keeps hW))
 have HI:=Lib.hid (fun (W:World)=>isForm_calls f W)
 have HG:=Lib.hid (fun (W:World) (hW:Keeps w W)=>canon_right (h.keeps hW) f e 0 he)
 have HPM:=Lib.hid (fun (W:World) (hW:Keeps w W)=>ordPerm_calls (ho.keeps hW))
 have hpr:=perm_range2 ho.perm
 have HWR:=Lib.hid (fun (hl:M.leads f e 0=true) (W:World) (hW:Keeps w W) (a:Option Addr) (cap:Nat) (hI:IntsAt W a ps)=>written_calls (h.keeps hW) a cap ps hI hpr.2 hpr.1 f hf e he (by
  rcases (leads_iff.1 hl).2 with h2 | ⟨r,q,_⟩
  ·exact .inl h2
  ·exact .inr (by rw [q];simp)))
 unfold saveCode
 by_cases hn:M.n=(ps.length:Int)
 ·rw [if_pos hn] at HF ⊢
  cases hb:isFormB f with
  | false=>
   rw [if_neg (by simp)]
   rw [hb] at HI
   clear h ho hn hb HG HPM HWR hpr
   go_enter Tryz.func25,Tryz.ntmps25
   go_wp2_with (first | (go_at_call 36;refine (HF.out _ (by (exact kp))).mono ?_;rintro e' w1 ⟨rfl,hk1⟩;have y0:w1.cell? ⟨w.heap.size,0,none⟩=some (.int .u8 e.tag):=hk1.cell (by simp);have y1:w1.cell? ⟨w.heap.size,1,none⟩=some (.int .u32 e.to):=hk1.cell (by simp)) | (go_at_call 61;refine (HI.out _).mono ?_;rintro e' w2 ⟨rfl,rfl⟩) | fail)
   go_ret2
   exact .inr ⟨by decide,rfl,by (exact kp)⟩
  | true=>
   rw [if_pos rfl]
   rw [hb] at HI
   cases hg:kRight M f e 0 with
   | false=>
    rw [if_neg (by simp)]
    rw [hg] at HG
    clear h ho hn hb hg HPM HWR hpr
    go_enter Tryz.func25,Tryz.ntmps25
    go_wp2_with (first | (go_at_call 36;refine (HF.out _ (by (exact kp))).mono ?_;rintro e' w1 ⟨rfl,hk1⟩;have y0:w1.cell? ⟨w.heap.size,0,none⟩=some (.int .u8 e.tag):=hk1.cell (by simp);have y1:w1.cell? ⟨w.heap.size,1,none⟩=some (.int .u32 e.to):=hk1.cell (by simp)) | (go_at_call 61;refine (HI.out _).mono ?_;rintro e' w2 ⟨rfl,rfl⟩) | (go_at_call 62;refine (HG.out _ (by (exact kp))).mono ?_;rintro e' w3 ⟨rfl,hk3⟩) | fail)
    go_ret2
    exact .inr ⟨by decide,rfl,by (exact kp)⟩
   | true=>
    rw [if_pos rfl]
    rw [hg] at HG
    replace HWR:=Lib.hid (HWR.out (kRight_lead hg))
    clear h ho hn hb hg hpr
    obtain ⟨N,hN⟩:∃ N,N=ps.length:=⟨_,rfl⟩
    rw [← hN] at HPM HWR
    clear hN
    go_enter Tryz.func25,Tryz.ntmps25
    go_wp2_with (first | (go_at_call 36;refine (HF.out _ (by (exact kp))).mono ?_;rintro e' w1 ⟨rfl,hk1⟩;have y0:w1.cell? ⟨w.heap.size,0,none⟩=some (.int .u8 e.tag):=hk1.cell (by simp);have y1:w1.cell? ⟨w.heap.size,1,none⟩=some (.int .u32 e.to):=hk1.cell (by simp)) | (go_at_call 61;refine (HI.out _).mono ?_;rintro e' w2 ⟨rfl,rfl⟩) | (go_at_call 62;refine (HG.out _ (by (exact kp))).mono ?_;rintro e' w3 ⟨rfl,hk3⟩;have z0:w3.cell? ⟨w.heap.size,0,none⟩=some (.int .u8 e.tag):=hk3.cell (hk1.cell (by simp));have z1:w3.cell? ⟨w.heap.size,1,none⟩=some (.int .u32 e.to):=hk3.cell (hk1.cell (by simp));have hsz1:=hk1.size;have hsz3:=hk3.size) | fail)
    refine wp_region_any (by kernel_rfl) ?_
    refine wpAny_take (i:=0) (v:=?_) rfl (by kernel_rfl) (by kernel_rfl) (by kernel_rfl) (fun _ _ _ h=>h) (Or.inl ⟨by rfl,?_⟩) ?_
    rotate_left
    ·intro w;go_simp;try with_reducible rfl
    refine wpAny_take (i:=1) (v:=?_) rfl (by kernel_rfl) (by kernel_rfl) (by kernel_rfl) (fun _ _ _ h=>h) (Or.inl ⟨by rfl,?_⟩) ?_
    rotate_left
    ·intro w;go_simp;try with_reducible rfl
    refine wpAny_take (i:=3) (v:=?_) rfl (by kernel_rfl) (by kernel_rfl) (by kernel_rfl) (fun _ _ _ h=>h) (Or.inl ⟨by rfl,?_⟩) ?_
    rotate_left
    ·intro w;go_simp;try with_reducible rfl
    refine wpAny_ready (rs:=[2,4]) (by kernel_rfl) (by decide) (AllReady.cons rfl (fun K hK=>?_) (AllReady.cons rfl (fun K hK=>?_) AllReady.nil))
    ·go_simp
     refine (HPM.out _ (by (exact kp))).mono ?_
     rintro e1 w4 ⟨a4,cap4,rfl,hrow,hk4⟩
     replace z0:=hk4.cell z0
     replace z1:=hk4.cell z1
     have HI4:=Lib.hid hrow.ints
     refine hK _ _ ?_
     clear hK K hrow
     refine wpAny_ready (rs:=[4]) (by kernel_rfl) (by decide) (AllReady.cons rfl (fun K hK=>?_) AllReady.nil)
     go_simp
     refine hK _ _ ?_
     clear hK K
     refine wpAny_ready (rs:=[5]) (by kernel_rfl) (by decide) (AllReady.cons rfl (fun K hK=>?_) AllReady.nil)
     go_simp
     refine (HWR.out _ (by (exact kp)) a4 cap4 HI4.out).mono ?_
     rintro e1 w5 ⟨v,rfl,hb,hk5⟩
     have HB:=Lib.hid hb
     refine hK _ _ ?_
     clear hK K hb
     refine wpAny_take (i:=6) (v:=?_) rfl (by kernel_rfl) (by kernel_rfl) (by kernel_rfl) (fun _ _ _ h=>h) (Or.inl ⟨by rfl,?_⟩) ?_
     rotate_left
     ·intro w;go_simp;try with_reducible rfl
     refine wpAny_take (i:=7) (v:=?_) rfl (by kernel_rfl) (by kernel_rfl) (by kernel_rfl) (fun _ _ _ h=>h) (Or.inl ⟨by rfl,?_⟩) ?_
     rotate_left
     ·intro w;go_simp;try with_reducible rfl
     refine wpAny_done (by kernel_rfl) ?_ _
     go_wp2_with fail
     go_ret2
     exact .inl ⟨trivial,v,rfl,HB.out.lower (by have:=hk4.size;simp only [World.size_drew,World.size_alloc] at *;omega),by (exact kp)⟩
    ·go_simp
     refine hK _ _ ?_
     clear hK K
     refine wpAny_ready (rs:=[2]) (by kernel_rfl) (by decide) (AllReady.cons rfl (fun K hK=>?_) AllReady.nil)
     go_simp
     refine (HPM.out _ (by (exact kp))).mono ?_
     rintro e1 w4 ⟨a4,cap4,rfl,hrow,hk4⟩
     replace z0:=hk4.cell z0
     replace z1:=hk4.cell z1
     have HI4:=Lib.hid hrow.ints
     refine hK _ _ ?_
     clear hK K hrow
     refine wpAny_ready (rs:=[5]) (by kernel_rfl) (by decide) (AllReady.cons rfl (fun K hK=>?_) AllReady.nil)
     go_simp
     refine (HWR.out _ (by (exact kp)) a4 cap4 HI4.out).mono ?_
     rintro e1 w5 ⟨v,rfl,hb,hk5⟩
     have HB:=Lib.hid hb
     refine hK _ _ ?_
     clear hK K hb
     refine wpAny_take (i:=6) (v:=?_) rfl (by kernel_rfl) (by kernel_rfl) (by kernel_rfl) (fun _ _ _ h=>h) (Or.inl ⟨by rfl,?_⟩) ?_
     rotate_left
     ·intro w;go_simp;try with_reducible rfl
     refine wpAny_take (i:=7) (v:=?_) rfl (by kernel_rfl) (by kernel_rfl) (by kernel_rfl) (fun _ _ _ h=>h) (Or.inl ⟨by rfl,?_⟩) ?_
     rotate_left
     ·intro w;go_simp;try with_reducible rfl
     refine wpAny_done (by kernel_rfl) ?_ _
     go_wp2_with fail
     go_ret2
     exact .inl ⟨trivial,v,rfl,HB.out.lower (by have:=hk4.size;simp only [World.size_drew,World.size_alloc] at *;omega),by (exact kp)⟩
 ·rw [if_neg hn] at HF ⊢
  clear h ho hn HI HG HPM HWR hpr
  go_enter Tryz.func25,Tryz.ntmps25
  go_wp2_with (first | (go_at_call 36;refine (HF.out _ (by (exact kp))).mono ?_;rintro e' w1 ⟨rfl,hk1⟩;have y0:w1.cell? ⟨w.heap.size,0,none⟩=some (.int .u8 e.tag):=hk1.cell (by simp);have y1:w1.cell? ⟨w.heap.size,1,none⟩=some (.int .u32 e.to):=hk1.cell (by simp)) | fail)
  go_ret2
  exact .inr ⟨by decide,rfl,by (exact kp)⟩

end Go.Proofs.YtfpjogpjocedaaaGreat
