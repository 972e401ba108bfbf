/-
  save.Save: an edge's bytes, or why it has none.
-/
import Derived.Test.YtiifimnpmbfihaaGreatPKB
import Derived.Test.YtiifimnpmbfihaaGreatPSaveX
namespace Go.Proofs.YtiifimnpmbfihaaGreat
set_option linter.unusedSimpArgs false
set_option linter.unusedVariables false
set_option maxHeartbeats 600000
open Go Go.RowKit

theorem perm_range2 {ps:List Int} (h:permB ps=true):ps.length ≤ 16 ∧ ∀ x ∈ ps,0 ≤ x ∧ x ≤ 16:=by
 obtain ⟨h1,h2,h3⟩:=permB_iff.1 h
 refine ⟨h1,fun x hx=>?_⟩
 have:=h2 x hx
 omega

theorem kRight_lead {M:St} {f:Int} {e:Edge} {l:Int} (h:kRight M f e l=true):M.leads f e l=true:=by
 unfold kRight at h
 split at h
 ·rename_i h1;rw [h1];exact h
 ·split at h
  ·rename_i h1;rw [h1];exact h
  ·split at h
   ·rename_i h1;rw [h1];exact right_leads h
   ·split at h
    ·rename_i h1;rw [h1];exact right_leads h
    ·split at h
     ·rename_i h1;rw [h1];exact right_leads h
     ·cases h

set_option maxRecDepth 100000 in
theorem saveFit_calls {F Fo:Nat → Prop} {w:World} {sb ob:Nat} {M:St} {ps:List Int} (h:StoreRep F w sb M) (ho:OrdRep Fo w ob ps) :
  Calls Tryz.prog 83 #[.pointer (some ⟨sb,0,none⟩),.pointer (some ⟨ob,0,none⟩)] w fun e w'=>e=.returned (.int .u8 (if M.n=(ps.length:Int) then 0 else 1)) ∧ Keeps w w':=by
 have HV:=Lib.hid (fun (W:World) (hW:Keeps w W)=>store_vars (h.keeps hW))
 have HO:=Lib.hid (fun (W:World) (hW:Keeps w W)=>ordVars_calls (ho.keeps hW))
 have hn0:=h.wf.n0
 have hn16:=h.wf.n16
 have hp16:=ho.le
 obtain ⟨N,hN⟩:∃ N,N=ps.length:=⟨_,rfl⟩
 obtain ⟨n,hn⟩:∃ n,n=M.n:=⟨_,rfl⟩
 rw [← hN] at HO hp16 ⊢
 rw [← hn] at HV hn0 hn16 ⊢
 clear h ho hN hn
 by_cases he:n=(N:Int)
 ·rw [if_pos he]
  subst he
  go_enter Tryz.func83,Tryz.ntmps83
  go_wp2_with (first | (go_at_call 97;refine (HV.out _ (by (exact kp))).mono ?_;rintro e' w' ⟨rfl,rfl⟩) | (go_at_call 116;refine (HO.out _ (by (exact kp))).mono ?_;rintro e' w' ⟨rfl,rfl⟩) | fail)
  go_ret
  exact ⟨rfl,by (exact kp)⟩
 ·rw [if_neg he]
  have g1:(n != (N:Int))=true:=by simp [he]
  go_enter Tryz.func83,Tryz.ntmps83
  go_wp2_with (first | (go_at_call 97;refine (HV.out _ (by (exact kp))).mono ?_;rintro e' w' ⟨rfl,rfl⟩) | (go_at_call 116;refine (HO.out _ (by (exact kp))).mono ?_;rintro e' w' ⟨rfl,rfl⟩) | fail)
  go_ret
  exact ⟨rfl,by (exact kp)⟩

theorem saveFit_none {sp op:Option Addr} (h:sp=none ∨ op=none) (w:World):Calls Tryz.prog 83 #[.pointer sp,.pointer op] w fun e w'=>e=.returned (.int .u8 2) ∧ Keeps w w':=by
 cases sp with
 | none=>
  clear h
  go_enter Tryz.func83,Tryz.ntmps83
  go_wp2
  go_ret
  exact ⟨rfl,by (exact kp)⟩
 | some a=>
  have ho:op=none:=by rcases h with h | h;cases h;exact h
  subst ho
  clear h
  go_enter Tryz.func83,Tryz.ntmps83
  go_wp2
  go_ret
  exact ⟨rfl,by (exact kp)⟩

noncomputable def saveCode (M:St) (n:Nat) (f:Int) (e:Edge):Int:=if M.n=(n:Int) then (if isFormB f=true then (if kRight M f e 0=true then 0 else 1) else 4) else 1

theorem saveNone_calls {sp op:Option Addr} (h:sp=none ∨ op=none) (f:Int) (e:Edge) (w:World):Calls Tryz.prog 18 #[.pointer sp,.pointer op,.int .u8 f,.agg #[.int .u8 e.tag,.int .u32 e.to]] w fun r w'=>r=.returned (.tuple #[.slice none 0 0,.int .u8 2]) ∧ Keeps w w':=by
 have HF:=Lib.hid (fun (W:World)=>saveFit_none h W)
 clear h
 go_enter Tryz.func18,Tryz.ntmps18
 go_wp2_with (first | (go_at_call 83;refine (HF.out _).mono ?_;rintro e' w1 ⟨rfl,hk⟩) | fail)
 go_ret2
 exact ⟨rfl,by (exact kp)⟩

set_option maxRecDepth 100000 in
set_option maxHeartbeats 1000000 in
theorem save_calls {F Fo:Nat → Prop} {w:World} {sb ob:Nat} {M:St} {ps:List Int} (h:StoreRep F w sb M) (ho:OrdRep Fo w ob ps) (f:Int) (hf:0 ≤ f ∧ f ≤ 255) (e:Edge) (he:e.ok) :
  Calls Tryz.prog 18 #[.pointer (some ⟨sb,0,none⟩),.pointer (some ⟨ob,0,none⟩),.int .u8 f,.agg #[.int .u8 e.tag,.int .u32 e.to]] w fun r w'=>(saveCode M ps.length f e=0 ∧ ∃ v,r=.returned (.tuple #[v,.int .u8 0]) ∧ BsRow w.heap.size w' v (saveB M ps f e) ∧ Keeps w w') ∨ (saveCode M ps.length f e ≠ 0 ∧ r=.returned (.tuple #[.slice none 0 0,.int .u8 (saveCode M ps.length f e)]) ∧ Keeps w w'):=by
 have HF:=Lib.hid (fun (W:World) (hW:Keeps w W)=>saveFit_calls (h.keeps hW) (ho.keeps hW))
 have HI:=Lib.hid (fun (W:World)=>isForm_calls f W)
 have HG:=Lib.hid (fun (W:World) (hW:Keeps w W)=>canon_right (h.keeps hW) f e 0 he)
 have HPM:=Lib.hid (fun (W:World) (hW:Keeps w W)=>ordPerm_calls (ho.keeps hW))
 have hpr:=perm_range2 ho.perm
 have HWR:=Lib.hid (fun (hl:M.leads f e 0=true) (W:World) (hW:Keeps w W) (a:Option Addr) (cap:Nat) (hI:IntsAt W a ps)=>written_calls (h.keeps hW) a cap ps hI hpr.2 hpr.1 f hf e he (by
  rcases (leads_iff.1 hl).2 with h2 | ⟨r,q,_⟩
  ·exact .inl h2
  ·exact .inr (by rw [q];simp)))
 unfold saveCode
 by_cases hn:M.n=(ps.length:Int)
 ·rw [if_pos hn] at HF ⊢
  cases hb:isFormB f with
  | false=>
   rw [if_neg (by simp)]
   rw [hb] at HI
   clear h ho hn hb HG HPM HWR hpr
   go_enter Tryz.func18,Tryz.ntmps18
   go_wp2_with (first | (go_at_call 83;refine (HF.out _ (by (exact kp))).mono ?_;rintro e' w1 ⟨rfl,hk1⟩;have y0:w1.cell? ⟨w.heap.size,0,none⟩=some (.int .u8 e.tag):=hk1.cell (by simp);have y1:w1.cell? ⟨w.heap.size,1,none⟩=some (.int .u32 e.to):=hk1.cell (by simp)) | (go_at_call 84;refine (HI.out _).mono ?_;rintro e' w2 ⟨rfl,rfl⟩) | fail)
   go_ret2
   exact .inr ⟨by decide,rfl,by (exact kp)⟩
  | true=>
   rw [if_pos rfl]
   rw [hb] at HI
   cases hg:kRight M f e 0 with
   | false=>
    rw [if_neg (by simp)]
    rw [hg] at HG
    clear h ho hn hb hg HPM HWR hpr
    go_enter Tryz.func18,Tryz.ntmps18
    go_wp2_with (first | (go_at_call 83;refine (HF.out _ (by (exact kp))).mono ?_;rintro e' w1 ⟨rfl,hk1⟩;have y0:w1.cell? ⟨w.heap.size,0,none⟩=some (.int .u8 e.tag):=hk1.cell (by simp);have y1:w1.cell? ⟨w.heap.size,1,none⟩=some (.int .u32 e.to):=hk1.cell (by simp)) | (go_at_call 84;refine (HI.out _).mono ?_;rintro e' w2 ⟨rfl,rfl⟩) | (go_at_call 85;refine (HG.out _ (by (exact kp))).mono ?_;rintro e' w3 ⟨rfl,hk3⟩) | fail)
    go_ret2
    exact .inr ⟨by decide,rfl,by (exact kp)⟩
   | true=>
    rw [if_pos rfl]
    rw [hg] at HG
    replace HWR:=Lib.hid (HWR.out (kRight_lead hg))
    clear h ho hn hb hg hpr
    obtain ⟨N,hN⟩:∃ N,N=ps.length:=⟨_,rfl⟩
    rw [← hN] at HPM HWR
    clear hN
    go_enter Tryz.func18,Tryz.ntmps18
    go_wp2_with (first | (go_at_call 83;refine (HF.out _ (by (exact kp))).mono ?_;rintro e' w1 ⟨rfl,hk1⟩;have y0:w1.cell? ⟨w.heap.size,0,none⟩=some (.int .u8 e.tag):=hk1.cell (by simp);have y1:w1.cell? ⟨w.heap.size,1,none⟩=some (.int .u32 e.to):=hk1.cell (by simp)) | (go_at_call 84;refine (HI.out _).mono ?_;rintro e' w2 ⟨rfl,rfl⟩) | (go_at_call 85;refine (HG.out _ (by (exact kp))).mono ?_;rintro e' w3 ⟨rfl,hk3⟩;have z0:w3.cell? ⟨w.heap.size,0,none⟩=some (.int .u8 e.tag):=hk3.cell (hk1.cell (by simp));have z1:w3.cell? ⟨w.heap.size,1,none⟩=some (.int .u32 e.to):=hk3.cell (hk1.cell (by simp));have hsz1:=hk1.size;have hsz3:=hk3.size) | fail)
    refine wp_region_any (by kernel_rfl) ?_
    refine wpAny_take (i:=0) (v:=?_) rfl (by kernel_rfl) (by kernel_rfl) (by kernel_rfl) (fun _ _ _ h=>h) (Or.inl ⟨by rfl,?_⟩) ?_
    rotate_left
    ·intro w;go_simp;try with_reducible rfl
    refine wpAny_take (i:=1) (v:=?_) rfl (by kernel_rfl) (by kernel_rfl) (by kernel_rfl) (fun _ _ _ h=>h) (Or.inl ⟨by rfl,?_⟩) ?_
    rotate_left
    ·intro w;go_simp;try with_reducible rfl
    refine wpAny_take (i:=3) (v:=?_) rfl (by kernel_rfl) (by kernel_rfl) (by kernel_rfl) (fun _ _ _ h=>h) (Or.inl ⟨by rfl,?_⟩) ?_
    rotate_left
    ·intro w;go_simp;try with_reducible rfl
    refine wpAny_ready (rs:=[2,4]) (by kernel_rfl) (by decide) (AllReady.cons rfl (fun K hK=>?_) (AllReady.cons rfl (fun K hK=>?_) AllReady.nil))
    ·go_simp
     refine (HPM.out _ (by (exact kp))).mono ?_
     rintro e1 w4 ⟨a4,cap4,rfl,hrow,hk4⟩
     replace z0:=hk4.cell z0
     replace z1:=hk4.cell z1
     have HI4:=Lib.hid hrow.ints
     refine hK _ _ ?_
     clear hK K hrow
     refine wpAny_ready (rs:=[4]) (by kernel_rfl) (by decide) (AllReady.cons rfl (fun K hK=>?_) AllReady.nil)
     go_simp
     refine hK _ _ ?_
     clear hK K
     refine wpAny_ready (rs:=[5]) (by kernel_rfl) (by decide) (AllReady.cons rfl (fun K hK=>?_) AllReady.nil)
     go_simp
     refine (HWR.out _ (by (exact kp)) a4 cap4 HI4.out).mono ?_
     rintro e1 w5 ⟨v,rfl,hb,hk5⟩
     have HB:=Lib.hid hb
     refine hK _ _ ?_
     clear hK K hb
     refine wpAny_take (i:=6) (v:=?_) rfl (by kernel_rfl) (by kernel_rfl) (by kernel_rfl) (fun _ _ _ h=>h) (Or.inl ⟨by rfl,?_⟩) ?_
     rotate_left
     ·intro w;go_simp;try with_reducible rfl
     refine wpAny_take (i:=7) (v:=?_) rfl (by kernel_rfl) (by kernel_rfl) (by kernel_rfl) (fun _ _ _ h=>h) (Or.inl ⟨by rfl,?_⟩) ?_
     rotate_left
     ·intro w;go_simp;try with_reducible rfl
     refine wpAny_done (by kernel_rfl) ?_ _
     go_wp2_with fail
     go_ret2
     exact .inl ⟨trivial,v,rfl,HB.out.lower (by have:=hk4.size;simp only [World.size_drew,World.size_alloc] at *;omega),by (exact kp)⟩
    ·go_simp
     refine hK _ _ ?_
     clear hK K
     refine wpAny_ready (rs:=[2]) (by kernel_rfl) (by decide) (AllReady.cons rfl (fun K hK=>?_) AllReady.nil)
     go_simp
     refine (HPM.out _ (by (exact kp))).mono ?_
     rintro e1 w4 ⟨a4,cap4,rfl,hrow,hk4⟩
     replace z0:=hk4.cell z0
     replace z1:=hk4.cell z1
     have HI4:=Lib.hid hrow.ints
     refine hK _ _ ?_
     clear hK K hrow
     refine wpAny_ready (rs:=[5]) (by kernel_rfl) (by decide) (AllReady.cons rfl (fun K hK=>?_) AllReady.nil)
     go_simp
     refine (HWR.out _ (by (exact kp)) a4 cap4 HI4.out).mono ?_
     rintro e1 w5 ⟨v,rfl,hb,hk5⟩
     have HB:=Lib.hid hb
     refine hK _ _ ?_
     clear hK K hb
     refine wpAny_take (i:=6) (v:=?_) rfl (by kernel_rfl) (by kernel_rfl) (by kernel_rfl) (fun _ _ _ h=>h) (Or.inl ⟨by rfl,?_⟩) ?_
     rotate_left
     ·intro w;go_simp;try with_reducible rfl
     refine wpAny_take (i:=7) (v:=?_) rfl (by kernel_rfl) (by kernel_rfl) (by kernel_rfl) (fun _ _ _ h=>h) (Or.inl ⟨by rfl,?_⟩) ?_
     rotate_left
     ·intro w;go_simp;try with_reducible rfl
     refine wpAny_done (by kernel_rfl) ?_ _
     go_wp2_with fail
     go_ret2
     exact .inl ⟨trivial,v,rfl,HB.out.lower (by have:=hk4.size;simp only [World.size_drew,World.size_alloc] at *;omega),by (exact kp)⟩
 ·rw [if_neg hn] at HF ⊢
  clear h ho hn HI HG HPM HWR hpr
  go_enter Tryz.func18,Tryz.ntmps18
  go_wp2_with (first | (go_at_call 83;refine (HF.out _ (by (exact kp))).mono ?_;rintro e' w1 ⟨rfl,hk1⟩;have y0:w1.cell? ⟨w.heap.size,0,none⟩=some (.int .u8 e.tag):=hk1.cell (by simp);have y1:w1.cell? ⟨w.heap.size,1,none⟩=some (.int .u32 e.to):=hk1.cell (by simp)) | fail)
  go_ret2
  exact .inr ⟨by decide,rfl,by (exact kp)⟩

end Go.Proofs.YtiifimnpmbfihaaGreat
