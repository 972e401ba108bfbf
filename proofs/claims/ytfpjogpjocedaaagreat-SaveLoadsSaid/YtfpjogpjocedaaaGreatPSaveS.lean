/-
  save.Save: an edge's bytes, or why it has none.
-/
import Derived.Test.YtfpjogpjocedaaaGreatPSaveX
import Derived.Test.YtfpjogpjocedaaaGreatPTextE
namespace Go.Proofs.YtfpjogpjocedaaaGreat
set_option linter.unusedSimpArgs false
set_option linter.unusedVariables false
set_option maxHeartbeats 600000
open Go Go.RowKit

theorem perm_range2 {ps:List Int} (h:permB ps=true):ps.length ≤ 16 ∧ ∀ x ∈ ps,0 ≤ x ∧ x ≤ 16:=by
 obtain ⟨h1,h2,h3⟩:=permB_iff.1 h
 refine ⟨h1,fun x hx=>?_⟩
 have:=h2 x hx
 omega

theorem kRight_lead {M:St} {f:Int} {e:Edge} {l:Int} (h:kRight M f e l=true):M.leads f e l=true:=by
 unfold kRight at h
 split at h
 ·rename_i h1;rw [h1];exact h
 ·split at h
  ·rename_i h1;rw [h1];exact h
  ·split at h
   ·rename_i h1;rw [h1];exact right_leads h
   ·split at h
    ·rename_i h1;rw [h1];exact right_leads h
    ·split at h
     ·rename_i h1;rw [h1];exact right_leads h
     ·cases h

set_option maxRecDepth 100000 in
theorem saveFit_calls {F Fo:Nat → Prop} {w:World} {sb ob:Nat} {M:St} {ps:List Int} (h:StoreRep F w sb M) (ho:OrdRep Fo w ob ps) :
  Calls Tryz.prog 36 #[.pointer (some ⟨sb,0,none⟩),.pointer (some ⟨ob,0,none⟩)] w fun e w'=>e=.returned (.int .u8 (if M.n=(ps.length:Int) then 0 else 1)) ∧ Keeps w w':=by
 have HV:=Lib.hid (fun (W:World) (hW:Keeps w W)=>store_vars (h.keeps hW))
 have HO:=Lib.hid (fun (W:World) (hW:Keeps w W)=>ordVars_calls (ho.keeps hW))
 have hn0:=h.wf.n0
 have hn16:=h.wf.n16
 have hp16:=ho.le
 obtain ⟨N,hN⟩:∃ N,N=ps.length:=⟨_,rfl⟩
 obtain ⟨n,hn⟩:∃ n,n=M.n:=⟨_,rfl⟩
 rw [← hN] at HO hp16 ⊢
 rw [← hn] at HV hn0 hn16 ⊢
 clear h ho hN hn
 by_cases he:n=(N:Int)
 ·rw [if_pos he]
  subst he
  go_enter Tryz.func36,Tryz.ntmps36
  go_wp2_with (first | (go_at_call 44;refine (HV.out _ (by (exact kp))).mono ?_;rintro e' w' ⟨rfl,rfl⟩) | (go_at_call 38;refine (HO.out _ (by (exact kp))).mono ?_;rintro e' w' ⟨rfl,rfl⟩) | fail)
  go_ret
  exact ⟨rfl,by (exact kp)⟩
 ·rw [if_neg he]
  have g1:(n != (N:Int))=true:=by simp [he]
  go_enter Tryz.func36,Tryz.ntmps36
  go_wp2_with (first | (go_at_call 44;refine (HV.out _ (by (exact kp))).mono ?_;rintro e' w' ⟨rfl,rfl⟩) | (go_at_call 38;refine (HO.out _ (by (exact kp))).mono ?_;rintro e' w' ⟨rfl,rfl⟩) | fail)
  go_ret
  exact ⟨rfl,by (exact kp)⟩

theorem saveFit_none {sp op:Option Addr} (h:sp=none ∨ op=none) (w:World):Calls Tryz.prog 36 #[.pointer sp,.pointer op] w fun e w'=>e=.returned (.int .u8 2) ∧ Keeps w w':=by
 cases sp with
 | none=>
  clear h
  go_enter Tryz.func36,Tryz.ntmps36
  go_wp2
  go_ret
  exact ⟨rfl,by (exact kp)⟩
 | some a=>
  have ho:op=none:=by rcases h with h | h;cases h;exact h
  subst ho
  clear h
  go_enter Tryz.func36,Tryz.ntmps36
  go_wp2
  go_ret
  exact ⟨rfl,by (exact kp)⟩

noncomputable def saveCode (M:St) (n:Nat) (f:Int) (e:Edge):Int:=if M.n=(n:Int) then (if isFormB f=true then (if kRight M f e 0=true then 0 else 1) else 4) else 1

set_option maxRecDepth 100000 in
set_option maxHeartbeats 1000000 in
theorem save_calls {F Fo:Nat → Prop} {w:World} {sb ob:Nat} {M:St} {ps:List Int} (h:StoreRep F w sb M) (ho:OrdRep Fo w ob ps) (f:Int) (hf:0 ≤ f ∧ f ≤ 255) (e:Edge) (he:e.ok) :
  Calls Tryz.prog 25 #[.pointer (some ⟨sb,0,none⟩),.pointer (some ⟨ob,0,none⟩),.int .u8 f,.agg #[.int .u8 e.tag,.int .u32 e.to]] w fun r w'=>(saveCode M ps.length f e=0 ∧ ∃ v,r=.returned (.tuple #[v,.int .u8 0]) ∧ BsRow w.heap.size w' v (saveB M ps f e) ∧ Keeps w w') ∨ (saveCode M ps.length f e ≠ 0 ∧ r=.returned (.tuple #[.slice none 0 0,.int .u8 (saveCode M ps.length f e)]) ∧ Keeps w w'):=by
 have HF:=Lib.hid (fun (W:World) (hW:Keeps w W)=>saveFit_calls (h.keeps hW) (ho.keeps hW))
 have HI:=Lib.hid (fun (W:World)=>isForm_calls f W)
 have HG:=Lib.hid (fun (W:World) (hW:Keeps w W)=>canon_right (h.keeps hW) f e 0 he)
 have HPM:=Lib.hid (fun (W:World) (hW:Keeps w W)=>ordPerm_calls (ho.keeps hW))
 have hpr:=perm_range2 ho.perm
 have HWR:=Lib.hid (fun (hl:M.leads f e 0=true) (W:World) (hW:Keeps w W) (a:Option Addr) (cap:Nat) (hI:IntsAt W a ps)=>written_calls (h.keeps hW) a cap ps hI hpr.2 hpr.1 f hf e he (by
  rcases (leads_iff.1 hl).2 with h2 | ⟨r,q,_⟩
  ·exact .inl h2
  ·exact .inr (by rw [q];simp)))
 unfold saveCode
 by_cases hn:M.n=(ps.length:Int)
 ·rw [if_pos hn] at HF ⊢
  cases hb:isFormB f with
  | false=>
   rw [if_neg (by simp)]
   rw [hb] at HI
   clear h ho hn hb HG HPM HWR hpr
   go_enter Tryz.func25,Tryz.ntmps25
   go_wp2_with (first | (go_at_call 36;refine (HF.out _ (by (exact kp))).mono ?_;rintro e' w1 ⟨rfl,hk1⟩;have y0:w1.cell? ⟨w.heap.size,0,none⟩=some (.int .u8 e.tag):=hk1.cell (by simp);have y1:w1.cell? ⟨w.heap.size,1,none⟩=some (.int .u32 e.to):=hk1.cell (by simp)) | (go_at_call 61;refine (HI.out _).mono ?_;rintro e' w2 ⟨rfl,rfl⟩) | fail)
   go_ret2
   exact .inr ⟨by decide,rfl,by (exact kp)⟩
  | true=>
   rw [if_pos rfl]
   rw [hb] at HI
   cases hg:kRight M f e 0 with
   | false=>
    rw [if_neg (by simp)]
    rw [hg] at HG
    clear h ho hn hb hg HPM HWR hpr
    go_enter Tryz.func25,Tryz.ntmps25
    go_wp2_with (first | (go_at_call 36;refine (HF.out _ (by (exact kp))).mono ?_;rintro e' w1 ⟨rfl,hk1⟩;have y0:w1.cell? ⟨w.heap.size,0,none⟩=some (.int .u8 e.tag):=hk1.cell (by simp);have y1:w1.cell? ⟨w.heap.size,1,none⟩=some (.int .u32 e.to):=hk1.cell (by simp)) | (go_at_call 61;refine (HI.out _).mono ?_;rintro e' w2 ⟨rfl,rfl⟩) | (go_at_call 62;refine (HG.out _ (by (exact kp))).mono ?_;rintro e' w3 ⟨rfl,hk3⟩) | fail)
    go_ret2
    exact .inr ⟨by decide,rfl,by (exact kp)⟩
   | true=>
    rw [if_pos rfl]
    rw [hg] at HG
    replace HWR:=Lib.hid (HWR.out (kRight_lead hg))
    clear h ho hn hb hg hpr
    obtain ⟨N,hN⟩:∃ N,N=ps.length:=⟨_,rfl⟩
    rw [← hN] at HPM HWR
    clear hN
    go_enter Tryz.func25,Tryz.ntmps25
    go_wp2_with (first | (go_at_call 36;refine (HF.out _ (by (exact kp))).mono ?_;rintro e' w1 ⟨rfl,hk1⟩;have y0:w1.cell? ⟨w.heap.size,0,none⟩=some (.int .u8 e.tag):=hk1.cell (by simp);have y1:w1.cell? ⟨w.heap.size,1,none⟩=some (.int .u32 e.to):=hk1.cell (by simp)) | (go_at_call 61;refine (HI.out _).mono ?_;rintro e' w2 ⟨rfl,rfl⟩) | (go_at_call 62;refine (HG.out _ (by (exact kp))).mono ?_;rintro e' w3 ⟨rfl,hk3⟩;have z0:w3.cell? ⟨w.heap.size,0,none⟩=some (.int .u8 e.tag):=hk3.cell (hk1.cell (by simp));have z1:w3.cell? ⟨w.heap.size,1,none⟩=some (.int .u32 e.to):=hk3.cell (hk1.cell (by simp));have hsz1:=hk1.size;have hsz3:=hk3.size) | fail)
    refine wp_region_any (by kernel_rfl) ?_
    refine wpAny_take (i:=0) (v:=?_) rfl (by kernel_rfl) (by kernel_rfl) (by kernel_rfl) (fun _ _ _ h=>h) (Or.inl ⟨by rfl,?_⟩) ?_
    rotate_left
    ·intro w;go_simp;try with_reducible rfl
    refine wpAny_take (i:=1) (v:=?_) rfl (by kernel_rfl) (by kernel_rfl) (by kernel_rfl) (fun _ _ _ h=>h) (Or.inl ⟨by rfl,?_⟩) ?_
    rotate_left
    ·intro w;go_simp;try with_reducible rfl
    refine wpAny_take (i:=3) (v:=?_) rfl (by kernel_rfl) (by kernel_rfl) (by kernel_rfl) (fun _ _ _ h=>h) (Or.inl ⟨by rfl,?_⟩) ?_
    rotate_left
    ·intro w;go_simp;try with_reducible rfl
    refine wpAny_ready (rs:=[2,4]) (by kernel_rfl) (by decide) (AllReady.cons rfl (fun K hK=>?_) (AllReady.cons rfl (fun K hK=>?_) AllReady.nil))
    ·go_simp
     refine (HPM.out _ (by (exact kp))).mono ?_
     rintro e1 w4 ⟨a4,cap4,rfl,hrow,hk4⟩
     replace z0:=hk4.cell z0
     replace z1:=hk4.cell z1
     have HI4:=Lib.hid hrow.ints
     refine hK _ _ ?_
     clear hK K hrow
     refine wpAny_ready (rs:=[4]) (by kernel_rfl) (by decide) (AllReady.cons rfl (fun K hK=>?_) AllReady.nil)
     go_simp
     refine hK _ _ ?_
     clear hK K
     refine wpAny_ready (rs:=[5]) (by kernel_rfl) (by decide) (AllReady.cons rfl (fun K hK=>?_) AllReady.nil)
     go_simp
     refine (HWR.out _ (by (exact kp)) a4 cap4 HI4.out).mono ?_
     rintro e1 w5 ⟨v,rfl,hb,hk5⟩
     have HB:=Lib.hid hb
     refine hK _ _ ?_
     clear hK K hb
     refine wpAny_take (i:=6) (v:=?_) rfl (by kernel_rfl) (by kernel_rfl) (by kernel_rfl) (fun _ _ _ h=>h) (Or.inl ⟨by rfl,?_⟩) ?_
     rotate_left
     ·intro w;go_simp;try with_reducible rfl
     refine wpAny_take (i:=7) (v:=?_) rfl (by kernel_rfl) (by kernel_rfl) (by kernel_rfl) (fun _ _ _ h=>h) (Or.inl ⟨by rfl,?_⟩) ?_
     rotate_left
     ·intro w;go_simp;try with_reducible rfl
     refine wpAny_done (by kernel_rfl) ?_ _
     go_wp2_with fail
     go_ret2
     exact .inl ⟨trivial,v,rfl,HB.out.lower (by have:=hk4.size;simp only [World.size_drew,World.size_alloc] at *;omega),by (exact kp)⟩
    ·go_simp
     refine hK _ _ ?_
     clear hK K
     refine wpAny_ready (rs:=[2]) (by kernel_rfl) (by decide) (AllReady.cons rfl (fun K hK=>?_) AllReady.nil)
     go_simp
     refine (HPM.out _ (by (exact kp))).mono ?_
     rintro e1 w4 ⟨a4,cap4,rfl,hrow,hk4⟩
     replace z0:=hk4.cell z0
     replace z1:=hk4.cell z1
     have HI4:=Lib.hid hrow.ints
     refine hK _ _ ?_
     clear hK K hrow
     refine wpAny_ready (rs:=[5]) (by kernel_rfl) (by decide) (AllReady.cons rfl (fun K hK=>?_) AllReady.nil)
     go_simp
     refine (HWR.out _ (by (exact kp)) a4 cap4 HI4.out).mono ?_
     rintro e1 w5 ⟨v,rfl,hb,hk5⟩
     have HB:=Lib.hid hb
     refine hK _ _ ?_
     clear hK K hb
     refine wpAny_take (i:=6) (v:=?_) rfl (by kernel_rfl) (by kernel_rfl) (by kernel_rfl) (fun _ _ _ h=>h) (Or.inl ⟨by rfl,?_⟩) ?_
     rotate_left
     ·intro w;go_simp;try with_reducible rfl
     refine wpAny_take (i:=7) (v:=?_) rfl (by kernel_rfl) (by kernel_rfl) (by kernel_rfl) (fun _ _ _ h=>h) (Or.inl ⟨by rfl,?_⟩) ?_
     rotate_left
     ·intro w;go_simp;try with_reducible rfl
     refine wpAny_done (by kernel_rfl) ?_ _
     go_wp2_with fail
     go_ret2
     exact .inl ⟨trivial,v,rfl,HB.out.lower (by have:=hk4.size;simp only [World.size_drew,World.size_alloc] at *;omega),by (exact kp)⟩
 ·rw [if_neg hn] at HF ⊢
  clear h ho hn HI HG HPM HWR hpr
  go_enter Tryz.func25,Tryz.ntmps25
  go_wp2_with (first | (go_at_call 36;refine (HF.out _ (by (exact kp))).mono ?_;rintro e' w1 ⟨rfl,hk1⟩;have y0:w1.cell? ⟨w.heap.size,0,none⟩=some (.int .u8 e.tag):=hk1.cell (by simp);have y1:w1.cell? ⟨w.heap.size,1,none⟩=some (.int .u32 e.to):=hk1.cell (by simp)) | fail)
  go_ret2
  exact .inr ⟨by decide,rfl,by (exact kp)⟩

theorem numbered_calls {F:Nat → Prop} {w:World} {mb:Nat} {M:St} {L:List (Int × Rec)} (h:RefRep F w mb M L) (hfa:FitA M) {base:Nat} (hbase:base ≤ w.heap.size) (hfew:M.cs.length ≤ 1048576) :
  ∀ (k:Nat) (e:Edge) (W:World) (v:Value) (S:List Int),Keeps w W → e.ok → Under M e.to k → UsRow base W v S → NumOk M S →
   Calls Tryz.prog 54 #[.pointer (some ⟨mb,0,none⟩),.agg #[.int .u8 e.tag,.int .u32 e.to],v] W fun x w'=>∃ v',x=.returned v' ∧ UsRow base w' v' (numM M e.to S) ∧ Keeps W w':=by
 intro k
 induction k with
 | zero=>
  intro e W v S hW he hu hv hS
  have hno:=hu.zero h.wf
  have:=hW.size
  exact numbered_step (h.keeps hW) hfa (by omega) e he v S hv hS hfew (fun r hr=>by rw [hno] at hr;cases hr) (fun r hr=>by rw [hno] at hr;cases hr)
 | succ k ih=>
  intro e W v S hW he hu hv hS
  have:=hW.size
  refine numbered_step (h.keeps hW) hfa (by omega) e he v S hv hS hfew (fun r hr W2 v2 S2 h2 hv2 hS2=>?_) (fun r hr W2 v2 S2 h2 hv2 hS2=>?_)
  ·exact ih r.lo W2 v2 S2 (hW.trans h2) (hfa _ r hr).lo (hu.top h.wf hr).1 hv2 hS2
  ·exact ih r.hi W2 v2 S2 (hW.trans h2) (hfa _ r hr).hi (hu.top h.wf hr).2 hv2 hS2

set_option maxRecDepth 100000 in
set_option maxHeartbeats 1000000 in
theorem refEdge' (a:Option Addr) (cap:Nat) (l:List Int) (w:World) (hu:UsAt w a l) (hl:l.length ≤ 1048576) (f:Int) (t k:Nat) (ht:t ≤ 255) (hk:k ≤ 4294967295) (hin:(k:Int) < 2 ∨ (k:Int) ∈ l) :
  Calls Tryz.prog 56 #[.int .u8 f,.slice a l.length cap,.agg #[.int .u8 (t:Int),.int .u32 (k:Int)]] w fun x w'=>∃ v,x=.returned v ∧ BsRow w.heap.size w' v (edgeB f l ⟨t,k⟩) ∧ Keeps w w':=by
 obtain ⟨n,hn⟩:∃ n,n=if k < 2 then k else l.idxOf (k:Int) + 2:=⟨_,rfl⟩
 have hix:l.idxOf (k:Int) ≤ l.length:=List.idxOf_le_length
 have hn64:n ≤ 4294967297:=by rw [hn];split <;> omega
 have HB:=Lib.hid (fun (W:World)=>refBytes_calls (n + 1) n (by omega) (by omega) W)
 have HT:=Lib.hid (fun (W:World)=>refBytes_calls (t + 1) t (by omega) (by omega) W)
 have HPL:=Lib.hid (fun (W:World) (hW:Keeps w W)=>place_calls a cap l (k:Int) W (hu.keeps hW) hl)
 have HL1:=Lib.hid (putB_len10 (n:=n) (by omega))
 have HL2:=Lib.hid (putB_len10 (n:=t) (by omega))
 have hge:edgeB f l ⟨t,k⟩=putB n ++ (if f=5 ∧ 0 < (k:Int) then putB t else []):=by
  unfold edgeB
  simp only [Int.toNat_natCast]
  rw [hn]
  by_cases hlow:k < 2
  ·rw [if_pos hlow,if_pos (by omega)]
  ·rw [if_neg hlow,if_neg (by omega)]
 obtain ⟨N,hN⟩:∃ N,N=l.length:=⟨_,rfl⟩
 rw [← hN] at HPL ⊢
 by_cases hlow:k < 2
 ·have gl:(k:Int) < 2:=by omega
  have hnk:n=k:=by rw [hn,if_pos hlow]
  subst hnk
  by_cases hc:f=5 ∧ 0 < n
  ·obtain ⟨rfl,gp⟩:=hc
   have HE:Hid (edgeB 5 l ⟨t,n⟩=putB n ++ putB t):=Lib.hid (by rw [hge,if_pos ⟨rfl,by omega⟩])
   clear hge hn hu hl hix hin HPL hN
   go_enter Tryz.func56,Tryz.ntmps56
   go_wp2_with (first
    | (go_at_call 53;have q:=HB;clear q;refine (HB.out _).mono ?_;rintro e1 w1 ⟨v1,rfl,hr,hk1⟩;have z0:w1.cell? ⟨w.heap.size,0,none⟩=some (.int .u8 (t:Int)):=hk1.cell (by simp [go_sem]);have z1:w1.cell? ⟨w.heap.size,1,none⟩=some (.int .u32 (n:Int)):=hk1.cell (by simp [go_sem]);have HR1:=Lib.hid hr;have hs1:=hk1.size;simp only [World.size_alloc] at hs1;have HK1:=Lib.hid (((Keeps.refl w).alloc _).trans hk1);clear hr hk1 HB)
    | (go_at_call 53;refine (HT.out _).mono ?_;rintro e2 w2 ⟨v2,rfl,hr,hk2⟩;have HR2:=Lib.hid hr;have HR12:=Lib.hid (HR1.out.keeps hk2);have hs2:=hk2.size;have HK2:=Lib.hid (HK1.out.trans hk2);clear hr hk2)
    | (at_builtin;refine wpB_append rfl _ _ rfl w.heap.size _ v1 v2 _ _ rfl rfl (HR12.out.lower (by simp only [World.size_alloc];omega)) HR2.out (by have:=HL1.out;have:=HL2.out;omega) (by omega) ?_;intro v3 w3 hr3 hg3;have HR3:=Lib.hid hr3;have HG3:=Lib.hid hg3;clear hr3 hg3)
    | fail)
   go_ret
   refine ⟨v3,rfl,by rw [HE.out];exact HR3.out,HK2.out.new (Upd.of_row HG3.out) (fun j hj=>?_)⟩
   have:=row_from HR12.out hj
   simp only [World.size_alloc] at this
   omega
  ·have HE:Hid (edgeB f l ⟨t,n⟩=putB n):=Lib.hid (by rw [hge,if_neg (fun hh=>hc ⟨hh.1,by omega⟩),List.append_nil])
   by_cases h5:f=5
   ·subst h5
    have gz:¬ (0 < n):=fun hh=>hc ⟨rfl,hh⟩
    clear hge hn hu hl hix hin HPL hN hc
    go_enter Tryz.func56,Tryz.ntmps56
    go_wp2_with (first
     | (go_at_call 53;have q:=HB;clear q;refine (HB.out _).mono ?_;rintro e1 w1 ⟨v1,rfl,hr,hk1⟩;have z0:w1.cell? ⟨w.heap.size,0,none⟩=some (.int .u8 (t:Int)):=hk1.cell (by simp [go_sem]);have z1:w1.cell? ⟨w.heap.size,1,none⟩=some (.int .u32 (n:Int)):=hk1.cell (by simp [go_sem]);have HR1:=Lib.hid hr;have hs1:=hk1.size;simp only [World.size_alloc] at hs1;have HK1:=Lib.hid (((Keeps.refl w).alloc _).trans hk1);clear hr hk1 HB)
     | fail)
    go_ret
    exact ⟨v1,rfl,by rw [HE.out];exact HR1.out.lower (by simp only [World.size_alloc];omega),HK1.out⟩
   ·have g5:(f == 5)=false:=by simp [h5]
    clear hge hn hu hl hix hin HPL hN hc h5
    go_enter Tryz.func56,Tryz.ntmps56
    go_wp2_with (first
     | (go_at_call 53;have q:=HB;clear q;refine (HB.out _).mono ?_;rintro e1 w1 ⟨v1,rfl,hr,hk1⟩;have z0:w1.cell? ⟨w.heap.size,0,none⟩=some (.int .u8 (t:Int)):=hk1.cell (by simp [go_sem]);have z1:w1.cell? ⟨w.heap.size,1,none⟩=some (.int .u32 (n:Int)):=hk1.cell (by simp [go_sem]);have HR1:=Lib.hid hr;have hs1:=hk1.size;simp only [World.size_alloc] at hs1;have HK1:=Lib.hid (((Keeps.refl w).alloc _).trans hk1);clear hr hk1 HB)
     | fail)
    go_ret
    exact ⟨v1,rfl,by rw [HE.out];exact HR1.out.lower (by simp only [World.size_alloc];omega),HK1.out⟩
 ·have gl:¬ ((k:Int) < 2):=by omega
  have hks:=hin.resolve_left gl
  obtain ⟨m,hm⟩:∃ m,m=l.idxOf (k:Int):=⟨_,rfl⟩
  have hnm:n=m + 2:=by rw [hn,if_neg hlow,hm]
  have hm20:m ≤ 1048576:=by omega
  have hp:placeI l (k:Int)=(m:Int):=by unfold placeI;rw [if_pos hks,← hm]
  rw [hp] at HPL
  subst hnm
  have hw1:IntKind.u64.wrap (m:Int)=(m:Int):=by unfold IntKind.wrap;simp [IntKind.signed,IntKind.bits];omega
  have hw2:IntKind.u64.wrap ((m:Int) + 2)=(m:Int) + 2:=by unfold IntKind.wrap;simp [IntKind.signed,IntKind.bits];omega
  have gk:0 < k:=by omega
  by_cases h5:f=5
  ·subst h5
   have HE:Hid (edgeB 5 l ⟨t,k⟩=putB (m + 2) ++ putB t):=Lib.hid (by rw [hge,if_pos ⟨rfl,by omega⟩])
   clear hge hn hu hl hix hin hN hp hm hks hlow
   go_enter Tryz.func56,Tryz.ntmps56
   go_wp2_with (first
    | (go_at_call 91;refine (HPL.out _ (by (exact kp))).mono ?_;rintro e0 w0 ⟨rfl,rfl⟩)
    | (go_at_call 53;have q:=HB;clear q;refine (HB.out _).mono ?_;rintro e1 w1 ⟨v1,rfl,hr,hk1⟩;have z0:w1.cell? ⟨w.heap.size,0,none⟩=some (.int .u8 (t:Int)):=hk1.cell (by simp [go_sem]);have z1:w1.cell? ⟨w.heap.size,1,none⟩=some (.int .u32 (k:Int)):=hk1.cell (by simp [go_sem]);have HR1:=Lib.hid hr;have hs1:=hk1.size;simp only [World.size_alloc] at hs1;have HK1:=Lib.hid (((Keeps.refl w).alloc _).trans hk1);clear hr hk1 HB)
    | (go_at_call 53;refine (HT.out _).mono ?_;rintro e2 w2 ⟨v2,rfl,hr,hk2⟩;have HR2:=Lib.hid hr;have HR12:=Lib.hid (HR1.out.keeps hk2);have hs2:=hk2.size;have HK2:=Lib.hid (HK1.out.trans hk2);clear hr hk2)
    | (at_builtin;refine wpB_append rfl _ _ rfl w.heap.size _ v1 v2 _ _ rfl rfl (HR12.out.lower (by simp only [World.size_alloc];omega)) HR2.out (by have:=HL1.out;have:=HL2.out;omega) (by omega) ?_;intro v3 w3 hr3 hg3;have HR3:=Lib.hid hr3;have HG3:=Lib.hid hg3;clear hr3 hg3)
    | fail)
   go_ret
   refine ⟨v3,rfl,by rw [HE.out];exact HR3.out,HK2.out.new (Upd.of_row HG3.out) (fun j hj=>?_)⟩
   have:=row_from HR12.out hj
   simp only [World.size_alloc] at this
   omega
  ·have HE:Hid (edgeB f l ⟨t,k⟩=putB (m + 2)):=Lib.hid (by rw [hge,if_neg (fun hh=>h5 hh.1),List.append_nil])
   have g5:(f == 5)=false:=by simp [h5]
   clear hge hn hu hl hix hin hN hp hm hks hlow h5
   go_enter Tryz.func56,Tryz.ntmps56
   go_wp2_with (first
    | (go_at_call 91;refine (HPL.out _ (by (exact kp))).mono ?_;rintro e0 w0 ⟨rfl,rfl⟩)
    | (go_at_call 53;have q:=HB;clear q;refine (HB.out _).mono ?_;rintro e1 w1 ⟨v1,rfl,hr,hk1⟩;have z0:w1.cell? ⟨w.heap.size,0,none⟩=some (.int .u8 (t:Int)):=hk1.cell (by simp [go_sem]);have z1:w1.cell? ⟨w.heap.size,1,none⟩=some (.int .u32 (k:Int)):=hk1.cell (by simp [go_sem]);have HR1:=Lib.hid hr;have hs1:=hk1.size;simp only [World.size_alloc] at hs1;have HK1:=Lib.hid (((Keeps.refl w).alloc _).trans hk1);clear hr hk1 HB)
    | fail)
   go_ret
   exact ⟨v1,rfl,by rw [HE.out];exact HR1.out.lower (by simp only [World.size_alloc];omega),HK1.out⟩

theorem refEdge_calls (a:Option Addr) (cap:Nat) (l:List Int) (w:World) (hu:UsAt w a l) (hl:l.length ≤ 1048576) (f:Int) (e:Edge) (he:e.ok) (hin:e.to < 2 ∨ e.to ∈ l) :
  Calls Tryz.prog 56 #[.int .u8 f,.slice a l.length cap,.agg #[.int .u8 e.tag,.int .u32 e.to]] w fun x w'=>∃ v,x=.returned v ∧ BsRow w.heap.size w' v (edgeB f l e) ∧ Keeps w w':=by
 obtain ⟨t,k⟩:=e
 obtain ⟨⟨a1,a2⟩,b1,b2⟩:=he
 simp only [] at a1 a2 b1 b2 hin
 obtain ⟨t,rfl⟩:∃ n:Nat,t=(n:Int):=⟨t.toNat,by omega⟩
 obtain ⟨k,rfl⟩:∃ n:Nat,k=(n:Int):=⟨k.toNat,by omega⟩
 exact refEdge' a cap l w hu hl f t k (by omega) (by omega) hin

end Go.Proofs.YtfpjogpjocedaaaGreat
