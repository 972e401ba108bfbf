/-
  save.text.put: a text's nodes are put into a store, one behind the other.
-/
import Derived.Test.YtfpjogpjocedaaaGreatPTextA
import Derived.Test.YtfpjogpjocedaaaGreatPTextB
namespace Go.Proofs.YtfpjogpjocedaaaGreat
set_option linter.unusedSimpArgs false
set_option linter.unusedVariables false
set_option maxHeartbeats 600000
open Go Go.RowKit

def PutOut (F:Nat → Prop) (w:World) (sb:Nat) (M:St) (l:List Rec) (e:Edge) (r:Ending) (w':World):Prop:=
 ∃ (er:Int) (M':St) (ids:List Int) (F':Nat → Prop) (x:Edge),putL l M []=(er,M',ids) ∧ r=.returned (.tuple #[.agg #[.int .u8 x.tag,.int .u32 x.to],.int .u8 er]) ∧ x=(if er=0 then atR ids e else ⟨0,0⟩) ∧ Upd F w w' ∧ StoreRep F' w' sb M' ∧ (∀ j,F' j → F j ∨ w.heap.size ≤ j)

theorem atRec_ok {ids:List Int} {f:Int} {i:Nat} {x:Rec} (h:NumRec f i x) (hf:0 ≤ f ∧ f ≤ 255) (hi:i ≤ 1073741824) (hids:∀ y ∈ ids,2 ≤ y ∧ y ≤ 4294967295):(atRec ids x).ok ∧ x.ok:=by
 have key:∀ e:Edge,NumE i e → (atR ids e).ok ∧ e.ok:=fun e he=>by
  have ht:=he.tag
  have ha:=he.at'
  have ho:e.ok:=⟨⟨ht.1,by omega⟩,ha.1,by omega⟩
  refine ⟨?_,ho⟩
  unfold atR
  split
  ·refine ⟨⟨ht.1,by show e.tag ≤ 255;omega⟩,?_⟩
   show 0 ≤ (ids[(e.to - 2).toNat]?).getD 0 ∧ (ids[(e.to - 2).toNat]?).getD 0 ≤ 4294967295
   cases hg:ids[(e.to - 2).toNat]? with
   | none=>exact ⟨by decide,by decide⟩
   | some y=>have:=hids y (List.mem_of_getElem? hg);exact ⟨by show 0 ≤ y;omega,this.2⟩
  ·exact ho
 have hff:=h.form
 have htt:=h.top
 have hbb:=h.bot
 obtain ⟨a1,a2⟩:=key x.lo h.lo
 obtain ⟨b1,b2⟩:=key x.hi h.hi
 exact ⟨⟨by show 0 ≤ x.form ∧ x.form ≤ 255;omega,by show 0 ≤ x.top ∧ x.top ≤ 255;omega,by show 0 ≤ x.bot ∧ x.bot ≤ 255;omega,a1,b1⟩,⟨by omega,by omega,by omega,a2,b2⟩⟩

theorem find_still {M:St} {r:Rec} (h:M.findErr r ≠ 0):M.findSt r=M:=by
 unfold St.findErr at h
 unfold St.findSt
 cases hi:M.idOf r with
 | some _=>rfl
 | none=>
  rw [hi] at h
  simp only [] at h ⊢
  split
  ·rfl
  ·rename_i h1
   rw [if_neg h1] at h
   split
   ·rfl
   ·rename_i h2
    rw [if_neg h2] at h
    exact absurd rfl h

theorem TxtRep.recs {base:Nat} {W:World} {tb:Nat} {n f k:Int} {perm:List Int} {l:List Rec} {e:Edge} {la:Option Addr} {lcap:Nat} (hT:TxtRep base W tb n f perm k l e) (h4:W.cell? ⟨tb,4,none⟩=some (.slice la l.length lcap)) {i:Nat} {x:Rec} (hx:l[i]?=some x) :
  ∃ g,la=some ⟨g,0,none⟩ ∧ ∀ j,j < 7 → W.cell? ⟨g,i * 7 + j,none⟩=(recVals x)[j]?:=by
 obtain ⟨⟨pv,lv,h1,h2,h3⟩,hb⟩:=hT
 have e4:W.cell? ⟨tb,4,none⟩=some lv:=by rw [cell_of_row W tb 4 _ _ _ h1];rfl
 rw [e4] at h4
 cases h4
 have hi:=(List.getElem?_eq_some_iff.1 hx).1
 obtain ⟨g,cap,hg⟩:=owns_shape h3 (by omega)
 cases hg
 refine ⟨g,rfl,fun j hj=>?_⟩
 have hc:=World.ownsRow.cellAt h3 (j:=i * 7 + j) (by
  have:(i + 1) * 7 ≤ l.length * 7:=Nat.mul_le_mul_right _ hi
  omega)
 rw [hc]
 exact flat_get recVals 7 (fun x=>rfl) l i j x hx hj

set_option maxRecDepth 100000 in
set_option maxHeartbeats 2000000 in
theorem textPut_calls {base:Nat} {F:Nat → Prop} {w:World} {sb tb:Nat} {M:St} {n f k form:Int} {perm:List Int} {l:List Rec} {e:Edge} (hS:StoreRep F w sb M) (hd:∀ W,Upd F w W → TxtRep base W tb n f perm k l e) (htb:¬ F tb) (hl:∀ i x,l[i]?=some x → NumRec form i x) (he:NumE l.length e) (hf:0 ≤ form ∧ form ≤ 255) (hlen:l.length ≤ 1048576) :
  Calls Tryz.prog 41 #[.pointer (some ⟨tb,0,none⟩),.pointer (some ⟨sb,0,none⟩)] w (PutOut F w sb M l e):=by
 obtain ⟨la,lcap,c4⟩:∃ la lcap,w.cell? ⟨tb,4,none⟩=some (.slice la l.length lcap):=by
  obtain ⟨⟨pv,lv,h1,h2,h3⟩,h4⟩:=hd w (Upd.refl _ _)
  obtain ⟨la,lcap,rfl,_⟩:=owns_slice h3
  exact ⟨la,lcap,by rw [cell_of_row w tb 4 _ _ _ h1];rfl⟩
 have tlt:tb < w.heap.size:=lt_of_cell c4
 have HC4:=Lib.hid c4
 have HST:=Lib.hid hS
 have HD:=Lib.hid hd
 have HL:=Lib.hid hl
 have HE:=Lib.hid he
 obtain ⟨N,hN⟩:∃ N,N=l.length:=⟨_,rfl⟩
 rw [← hN] at c4 hlen
 have HN:=Lib.hid hN
 have HFlt:=Lib.hid hS.lt
 clear hS hd hl he hN
 obtain ⟨j0,hj,jz0,jz1,jz2⟩:=info_parts info_u32
 go_enter Tryz.func41,Tryz.ntmps41
 go_wp2_with (first
  | (at_make;refine wpList_make_full _ rfl _ _ 49 rfl (w.heap.size + 1) 35 j0 (.int .u32 0) 1 Tryz.underlying49 hj jz0 jz1 .i64 .i64 (N:Int) (N:Int) N rfl rfl rfl rfl (by rw [jz2];omega) (by unfold maxLen;omega) (by simp) ?_;intro w1 hown1 hg1;have hk1:Keeps (w.alloc (.cells #[.int .u8 0,.int .u32 0] 37)) w1:=⟨hg1.os,hg1.tape,hg1.output,hg1.size,fun i hi=>hg1.block i hi (by simp)⟩;have y4:=hk1.cell (((Keeps.refl w).alloc _).cell c4);have s1:=hk1.size;(try simp only [World.size_alloc] at s1);have tl1:tb < w1.heap.size:=(by omega))
  | fail)
 have z0:w1.cell? ⟨w.heap.size,0,none⟩=some (.int .u8 0):=hk1.cell (by simp [go_sem])
 have z1:w1.cell? ⟨w.heap.size,1,none⟩=some (.int .u32 0):=hk1.cell (by simp [go_sem])
 have zf:∀ o:Nat,w1.frozen? ⟨w.heap.size,o,none⟩=false:=fun o=>hk1.frz (a:=⟨w.heap.size,o,none⟩) (by show w.heap.size < _;simp) (by simp [go_sem])
 have hr1:RowN w1 (w.heap.size + 1) N []:=by have q:=rowN_made2 hown1;rwa [World.size_alloc] at q
 have lA:=hr1.lt
 obtain ⟨W2,hW2⟩:∃ W2,W2=w1.alloc (.cells #[.slice (some ⟨w.heap.size + 1,0,none⟩) N N] 49):=⟨_,rfl⟩
 have hk2:Keeps w1 W2:=by rw [hW2];exact (Keeps.refl w1).alloc _
 have hI:IdsAt W2 w1.heap.size (w.heap.size + 1) N []:=⟨by rw [hW2];simp [go_sem],hr1.upd (hk2.upd (fun _=>False)) (fun h=>h)⟩
 have hkk:Keeps w W2:=((Keeps.refl w).alloc _ |>.trans hk1).trans hk2
 replace z0:=hk2.cell z0
 replace z1:=hk2.cell z1
 replace zf:=fun o:Nat=>hk2.frz (a:=⟨w.heap.size,o,none⟩) (by show w.heap.size < _;omega) (zf o)
 have s2:W2.heap.size=w1.heap.size + 1:=by rw [hW2];simp
 have HS2:=Lib.hid (HST.out.keeps hkk)
 have HI2:=Lib.hid hI
 have HKK:=Lib.hid hkk
 rw [← hW2]
 clear hW2 hk2 hk1 hg1 hown1 hr1 hI hkk y4
 obtain ⟨ib,hib⟩:∃ ib,ib=w1.heap.size:=⟨_,rfl⟩
 rw [← hib] at HI2 s1 s2 tl1 lA ⊢
 clear hib c4
 go_loopg [24] N (fun gk s24 wr=>∃ (i:Nat) (M1:St) (ids:List Int) (F1:Nat → Prop),s24=.int .i64 (i:Int) ∧ i + gk=N ∧ PutAt l M i M1 ids ∧ StoreRep F1 wr sb M1 ∧ (∀ j,F1 j → F j ∨ W2.heap.size ≤ j) ∧ IdsAt wr ib (w.heap.size + 1) N ids ∧ Upd (fun j=>F j ∨ j=w.heap.size + 1) W2 wr)
 case atStart=>exact ⟨0,M,[],F,rfl,by omega,PutAt.start HST.out.wf _,HS2.out,fun j hj=>.inl hj,HI2.out,Upd.refl _ _⟩
 case round=>
  obtain ⟨i,M1,ids,F1,rfl,hi,hA,hS1,hF1,hI,hU⟩:=hrel
  have hu0:Upd F w wr:=((HKK.out.upd F)).later hU (fun j hj hh=>hh.elim (fun h=>h) (fun h=>by omega))
  have hTr:=HD.out wr hu0
  have e5:=hTr.cells.2.2.2.1
  have e6:=hTr.cells.2.2.2.2.1
  have nb4:¬ (F w.heap.size ∨ w.heap.size=w.heap.size + 1):=fun h=>h.elim (fun h=>by have:=HFlt.out _ h;omega) (fun h=>by omega)
  have sr:=hU.size
  have r0:=hU.cellAt nb4 z0
  have r1:=hU.cellAt nb4 z1
  have rf:=fun o:Nat=>hU.frzAt (by omega) nb4 (zf o)
  have F1lt:=hS1.lt
  have hfew:=hS1.few
  have hids:∀ y ∈ ids,2 ≤ y ∧ y ≤ 4294967295:=fun y hy=>id_range hA.wf (by omega) (hA.ids y hy)
  have HIDS:=Lib.hid hids
  have HA:=Lib.hid hA
  have HS1:=Lib.hid hS1
  have HF1:=Lib.hid hF1
  have HI:=Lib.hid hI
  have HU:=Lib.hid hU
  have HU0:=Lib.hid hu0
  have HTR:=Lib.hid hTr
  have HF1LT:=Lib.hid F1lt
  have nF1:∀ j,w.heap.size ≤ j → j < W2.heap.size → ¬ F1 j:=fun j h1 h2 hh=>(hF1 j hh).elim (fun h=>by have:=HFlt.out _ h;omega) (fun h=>by omega)
  have NF1:=Lib.hid nF1
  clear hids hfew hA hS1 hF1 hI hU hu0 hTr F1lt nF1
  by_cases hlt:i < N
  ·obtain ⟨x,hx⟩:∃ x,l[i]?=some x:=⟨_,List.getElem?_eq_getElem (by rw [← HN.out];exact hlt)⟩
   have hnr:=HL.out i x hx
   obtain ⟨hok2,hok⟩:=atRec_ok hnr hf (by omega) HIDS.out
   have h4w:wr.cell? ⟨tb,4,none⟩=some (.slice la l.length lcap):=HU0.out.cellAt htb HC4.out
   obtain ⟨g,rfl,hc⟩:=HTR.out.recs h4w hx
   have hsv:=fun j hj=>(hc j hj).trans (List.getElem?_eq_getElem (show j < (recVals x).length from hj))
   have v0:wr.cell? ⟨g,i * 7,none⟩=some (.int .u8 x.form):=hsv 0 (by omega)
   have v1:wr.cell? ⟨g,i * 7 + 1,none⟩=some (.int .u8 x.top):=hsv 1 (by omega)
   have v2:wr.cell? ⟨g,i * 7 + 2,none⟩=some (.int .u8 x.bot):=hsv 2 (by omega)
   have v3:wr.cell? ⟨g,i * 7 + 3,none⟩=some (.int .u8 x.lo.tag):=hsv 3 (by omega)
   have v4:wr.cell? ⟨g,i * 7 + 4,none⟩=some (.int .u32 x.lo.to):=hsv 4 (by omega)
   have v5:wr.cell? ⟨g,i * 7 + 5,none⟩=some (.int .u8 x.hi.tag):=hsv 5 (by omega)
   have v6:wr.cell? ⟨g,i * 7 + 6,none⟩=some (.int .u32 x.hi.to):=hsv 6 (by omega)
   have i1:(i:Int) < (N:Int):=by omega
   have hg0:g < wr.heap.size:=lt_of_cell v0
   have HA3:=Lib.hid (fun (W:World) (hW:Keeps wr W)=>at1_calls (HI.out.keeps hW) x.lo hok.lo (fun h2=>by have:=hnr.lo.at'.2;omega) (by omega))
   have HA7:=Lib.hid (fun (W:World) (hW:Keeps wr W)=>at1_calls (HI.out.keeps hW) x.hi hok.hi (fun h2=>by have:=hnr.hi.at'.2;omega) (by omega))
   have HFI:=Lib.hid (fun (W:World) (hW:StoreRep F1 W sb M1)=>store_find hW (atRec ids x) hok2)
   have HNX:Hid (M1.findErr (atRec ids x)=0 → PutAt l M (i + 1) (M1.findSt (atRec ids x)) (ids ++ [M1.findId (atRec ids x)])):=Lib.hid (fun h=>HA.out.next hx h)
   have HBD:Hid (M1.findErr (atRec ids x) ≠ 0 → putL l M []=(M1.findErr (atRec ids x),M1,ids)):=Lib.hid (fun h=>HA.out.bad hx h)
   have HSM:Hid (M1.findErr (atRec ids x) ≠ 0 → M1.findSt (atRec ids x)=M1):=Lib.hid (fun h=>find_still h)
   have hat:atRec ids x=⟨x.form,x.top,x.bot,atR ids x.lo,atR ids x.hi⟩:=rfl
   rw [hat] at HFI HNX HBD HSM
   obtain ⟨lo2,hlo2⟩:∃ q,q=atR ids x.lo:=⟨_,rfl⟩
   obtain ⟨hi2,hhi2⟩:∃ q,q=atR ids x.hi:=⟨_,rfl⟩
   rw [← hlo2] at HA3 HFI HNX HBD HSM
   rw [← hhi2] at HA7 HFI HNX HBD HSM
   obtain ⟨id,hid⟩:∃ q,q=M1.findId ⟨x.form,x.top,x.bot,lo2,hi2⟩:=⟨_,rfl⟩
   obtain ⟨er,her⟩:∃ q,q=M1.findErr ⟨x.form,x.top,x.bot,lo2,hi2⟩:=⟨_,rfl⟩
   obtain ⟨M2,hM2⟩:∃ q,q=M1.findSt ⟨x.form,x.top,x.bot,lo2,hi2⟩:=⟨_,rfl⟩
   rw [← hid,← her,← hM2] at HFI
   rw [← hid,← her,← hM2] at HNX
   rw [← her] at HBD
   rw [← her,← hM2] at HSM
   clear hsv hc h4w hnr hok2 hok hat hlo2 hhi2 hid her hM2 hx e5 e6
   go_wp2_with fail
   obtain ⟨Wa,hWa⟩:∃ W,W=wr.alloc (.cells #[.int .u8 x.form,.int .u8 x.top,.int .u8 x.bot,.int .u8 x.lo.tag,.int .u32 x.lo.to,.int .u8 x.hi.tag,.int .u32 x.hi.to] 87):=⟨_,rfl⟩
   have hB:RecBox Wa wr.heap.size x:=by rw [hWa];exact ⟨heap_alloc_new wr _⟩
   have hkw:Keeps wr Wa:=by rw [hWa];exact (Keeps.refl wr).alloc _
   rw [← hWa]
   clear hWa v0 v1 v2 v3 v4 v5 v6
   go_cut [] (fun wx=>RecBox wx wr.heap.size ⟨x.form,x.top,x.bot,lo2,hi2⟩ ∧ Keeps wr wx)
   case first=>
    refine wp_region_any (by kernel_rfl) ?_
    obtain ⟨W9,hW9⟩:∃ W9,W9=Wa.drew:=⟨_,rfl⟩
    have hkd:Keeps Wa W9:=by rw [hW9];exact (Keeps.refl Wa).drew
    replace hB:=hB.upd (hkd.upd (fun _=>False)) (fun h=>h)
    replace hkw:=hkw.trans hkd
    show wpAny Tryz.prog .any _ _ _ _ _ Wa.drew
    rw [← hW9]
    clear hW9 hkd
    obtain ⟨q0,q1,q2,q3,q4,q5,q6,qf⟩:=hB.cells
    refine wpAny_take (i:=0) (v:=?_) rfl (by kernel_rfl) (by kernel_rfl) (by kernel_rfl) (fun _ _ _ h=>h) (Or.inl ⟨by rfl,?_⟩) ?_
    rotate_left
    ·intro w;go_simp;try with_reducible rfl
    refine wpAny_take (i:=1) (v:=?_) rfl (by kernel_rfl) (by kernel_rfl) (by kernel_rfl) (fun _ _ _ h=>h) (Or.inl ⟨by rfl,?_⟩) ?_
    rotate_left
    ·intro w;go_simp;try with_reducible rfl
    refine wpAny_take (i:=4) (v:=?_) rfl (by kernel_rfl) (by kernel_rfl) (by kernel_rfl) (fun _ _ _ h=>h) (Or.inl ⟨by rfl,?_⟩) ?_
    rotate_left
    ·intro w;go_simp;try with_reducible rfl
    refine wpAny_take (i:=5) (v:=?_) rfl (by kernel_rfl) (by kernel_rfl) (by kernel_rfl) (fun _ _ _ h=>h) (Or.inl ⟨by rfl,?_⟩) ?_
    rotate_left
    ·intro w;go_simp;try with_reducible rfl
    refine wpAny_ready (rs:=[2,6]) (by kernel_rfl) (by decide) (AllReady.cons rfl (fun K hK=>?_) (AllReady.cons rfl (fun K hK=>?_) AllReady.nil))
    ·go_simp
     refine hK _ _ ?_
     clear hK K
     refine wpAny_ready (rs:=[3,6]) (by kernel_rfl) (by decide) (AllReady.cons rfl (fun K hK=>?_) (AllReady.cons rfl (fun K hK=>?_) AllReady.nil))
     ·go_simp
      refine (HA3.out _ (by (exact kp))).mono ?_
      rintro e' w3 ⟨rfl,hk3⟩
      replace hB:=hB.upd (hk3.upd (fun _=>False)) (fun h=>h)
      obtain ⟨q0,q1,q2,q3,q4,q5,q6,qf⟩:=hB.cells
      replace hkw:=hkw.trans hk3
      refine hK _ _ ?_
      clear hK K
      refine wpAny_ready (rs:=[6]) (by kernel_rfl) (by decide) (AllReady.cons rfl (fun K hK=>?_) AllReady.nil)
      go_simp
      refine hK _ _ ?_
      clear hK K
      refine wpAny_take (i:=8) (v:=?_) rfl (by kernel_rfl) (by kernel_rfl) (by kernel_rfl) (fun _ _ _ h=>h) (Or.inl ⟨by rfl,?_⟩) ?_
      rotate_left
      ·intro w;go_simp;try with_reducible rfl
      refine wpAny_ready (rs:=[7]) (by kernel_rfl) (by decide) (AllReady.cons rfl (fun K hK=>?_) AllReady.nil)
      go_simp
      refine (HA7.out _ (by (exact kp))).mono ?_
      rintro e' w7 ⟨rfl,hk7⟩
      replace hB:=hB.upd (hk7.upd (fun _=>False)) (fun h=>h)
      obtain ⟨q0,q1,q2,q3,q4,q5,q6,qf⟩:=hB.cells
      replace hkw:=hkw.trans hk7
      refine hK _ _ ?_
      clear hK K
      refine wpAny_ready (rs:=[9]) (by kernel_rfl) (by decide) (AllReady.cons rfl (fun K hK=>?_) AllReady.nil)
      go_simp
      refine hK _ _ ?_
      clear hK K
      refine wpAny_take (i:=10) (v:=?_) rfl (by kernel_rfl) (by kernel_rfl) (by kernel_rfl) (fun _ _ _ h=>h) (Or.inl ⟨by rfl,?_⟩) ?_
      rotate_left
      ·intro w;go_simp;try with_reducible rfl
      refine wpAny_ready (rs:=[11]) (by kernel_rfl) (by decide) (AllReady.cons rfl (fun K hK=>?_) AllReady.nil)
      go_simp
      refine hK _ _ ?_
      clear hK K
      refine wpAny_done (by kernel_rfl) ?_ _
      go_wp2_with fail
      go_meet
      exact ⟨(hB.setLo lo2).setHi hi2,hkw.new ((updX2 w7 wr.heap.size 3 4 _ _).trans' (updX2 _ wr.heap.size 5 6 _ _)) (fun k hk=>by omega)⟩
     ·go_simp
      refine hK _ _ ?_
      clear hK K
      refine wpAny_ready (rs:=[3]) (by kernel_rfl) (by decide) (AllReady.cons rfl (fun K hK=>?_) AllReady.nil)
      go_simp
      refine (HA3.out _ (by (exact kp))).mono ?_
      rintro e' w3 ⟨rfl,hk3⟩
      replace hB:=hB.upd (hk3.upd (fun _=>False)) (fun h=>h)
      obtain ⟨q0,q1,q2,q3,q4,q5,q6,qf⟩:=hB.cells
      replace hkw:=hkw.trans hk3
      refine hK _ _ ?_
      clear hK K
      refine wpAny_take (i:=8) (v:=?_) rfl (by kernel_rfl) (by kernel_rfl) (by kernel_rfl) (fun _ _ _ h=>h) (Or.inl ⟨by rfl,?_⟩) ?_
      rotate_left
      ·intro w;go_simp;try with_reducible rfl
      refine wpAny_ready (rs:=[7]) (by kernel_rfl) (by decide) (AllReady.cons rfl (fun K hK=>?_) AllReady.nil)
      go_simp
      refine (HA7.out _ (by (exact kp))).mono ?_
      rintro e' w7 ⟨rfl,hk7⟩
      replace hB:=hB.upd (hk7.upd (fun _=>False)) (fun h=>h)
      obtain ⟨q0,q1,q2,q3,q4,q5,q6,qf⟩:=hB.cells
      replace hkw:=hkw.trans hk7
      refine hK _ _ ?_
      clear hK K
      refine wpAny_ready (rs:=[9]) (by kernel_rfl) (by decide) (AllReady.cons rfl (fun K hK=>?_) AllReady.nil)
      go_simp
      refine hK _ _ ?_
      clear hK K
      refine wpAny_take (i:=10) (v:=?_) rfl (by kernel_rfl) (by kernel_rfl) (by kernel_rfl) (fun _ _ _ h=>h) (Or.inl ⟨by rfl,?_⟩) ?_
      rotate_left
      ·intro w;go_simp;try with_reducible rfl
      refine wpAny_ready (rs:=[11]) (by kernel_rfl) (by decide) (AllReady.cons rfl (fun K hK=>?_) AllReady.nil)
      go_simp
      refine hK _ _ ?_
      clear hK K
      refine wpAny_done (by kernel_rfl) ?_ _
      go_wp2_with fail
      go_meet
      exact ⟨(hB.setLo lo2).setHi hi2,hkw.new ((updX2 w7 wr.heap.size 3 4 _ _).trans' (updX2 _ wr.heap.size 5 6 _ _)) (fun k hk=>by omega)⟩
    ·go_simp
     refine hK _ _ ?_
     clear hK K
     refine wpAny_ready (rs:=[2]) (by kernel_rfl) (by decide) (AllReady.cons rfl (fun K hK=>?_) AllReady.nil)
     go_simp
     refine hK _ _ ?_
     clear hK K
     refine wpAny_ready (rs:=[3]) (by kernel_rfl) (by decide) (AllReady.cons rfl (fun K hK=>?_) AllReady.nil)
     go_simp
     refine (HA3.out _ (by (exact kp))).mono ?_
     rintro e' w3 ⟨rfl,hk3⟩
     replace hB:=hB.upd (hk3.upd (fun _=>False)) (fun h=>h)
     obtain ⟨q0,q1,q2,q3,q4,q5,q6,qf⟩:=hB.cells
     replace hkw:=hkw.trans hk3
     refine hK _ _ ?_
     clear hK K
     refine wpAny_take (i:=8) (v:=?_) rfl (by kernel_rfl) (by kernel_rfl) (by kernel_rfl) (fun _ _ _ h=>h) (Or.inl ⟨by rfl,?_⟩) ?_
     rotate_left
     ·intro w;go_simp;try with_reducible rfl
     refine wpAny_ready (rs:=[7]) (by kernel_rfl) (by decide) (AllReady.cons rfl (fun K hK=>?_) AllReady.nil)
     go_simp
     refine (HA7.out _ (by (exact kp))).mono ?_
     rintro e' w7 ⟨rfl,hk7⟩
     replace hB:=hB.upd (hk7.upd (fun _=>False)) (fun h=>h)
     obtain ⟨q0,q1,q2,q3,q4,q5,q6,qf⟩:=hB.cells
     replace hkw:=hkw.trans hk7
     refine hK _ _ ?_
     clear hK K
     refine wpAny_ready (rs:=[9]) (by kernel_rfl) (by decide) (AllReady.cons rfl (fun K hK=>?_) AllReady.nil)
     go_simp
     refine hK _ _ ?_
     clear hK K
     refine wpAny_take (i:=10) (v:=?_) rfl (by kernel_rfl) (by kernel_rfl) (by kernel_rfl) (fun _ _ _ h=>h) (Or.inl ⟨by rfl,?_⟩) ?_
     rotate_left
     ·intro w;go_simp;try with_reducible rfl
     refine wpAny_ready (rs:=[11]) (by kernel_rfl) (by decide) (AllReady.cons rfl (fun K hK=>?_) AllReady.nil)
     go_simp
     refine hK _ _ ?_
     clear hK K
     refine wpAny_done (by kernel_rfl) ?_ _
     go_wp2_with fail
     go_meet
     exact ⟨(hB.setLo lo2).setHi hi2,hkw.new ((updX2 w7 wr.heap.size 3 4 _ _).trans' (updX2 _ wr.heap.size 5 6 _ _)) (fun k hk=>by omega)⟩
   case rest=>
    obtain ⟨hB,hkw⟩:=hcut
    obtain ⟨q0,q1,q2,q3,q4,q5,q6,qf⟩:=hB.cells
    have HKW:=Lib.hid hkw
    have hsc:=hkw.size
    clear hB hkw
    by_cases he0:er=0
    ·have HNP:=Lib.hid (HNX.out he0)
     subst he0
     go_wp2_with (first | (go_at_call 32;refine (HFI.out _ (HS1.out.keeps HKW.out)).mono ?_;rintro e' w8 ⟨rfl,hu8,hS8⟩;have hI8:=HI.out.upd (G:=F1) ((HKW.out.upd F1).trans' hu8) (NF1.out ib (by omega) (by omega)) (NF1.out _ (by omega) (by omega));have y0:=hI8.box;have yc:=hI8.row.cell i hlt;have yf:=hI8.row.frozen i;have HI8:=Lib.hid (hI8.row.snoc (ids:=ids) (HA.out.len) hlt id);have HU8:=Lib.hid hu8;have HS8:=Lib.hid hS8;have hs8:=hu8.size;clear hI8 hu8 hS8) | fail)
     go_roundg (gk - 1)
     case rel=>
      refine ⟨i + 1,M2,ids ++ [id],Grow F1 wc w8,by simp,by omega,HNP.out,HS8.out.keep (updX w8 (w.heap.size + 1) i _) (fun k hk e=>?_),fun j hj=>?_,⟨(updX w8 (w.heap.size + 1) i _).cellAt (by omega) y0,HI8.out⟩,?_⟩
      ·have e2:k=w.heap.size + 1:=e
       rcases hk with hk | hk
       ·exact NF1.out k (by omega) (by omega) hk
       ·omega
      ·rcases hj with hj | hj
       ·exact HF1.out j hj
       ·exact .inr (by omega)
      ·exact ((HU.out.trans' (HKW.out.upd _)).later HU8.out (fun j h1 h2=>(HF1.out j h2).elim (fun h=>.inl h) (fun h=>by omega))).trans' ((updX w8 (w.heap.size + 1) i _).mono (fun k _ hk=>.inr hk))
     case measure=>omega
    ·have gne:(er != 0)=true:=by simp [he0]
     go_wp2_with (first | (go_at_call 32;refine (HFI.out _ (HS1.out.keeps HKW.out)).mono ?_;rintro e' w8 ⟨rfl,hu8,hS8⟩;have p0:=hu8.cellAt (NF1.out w.heap.size (by omega) (by omega)) (HKW.out.cell r0);have p1:=hu8.cellAt (NF1.out w.heap.size (by omega) (by omega)) (HKW.out.cell r1);have pf:=fun o:Nat=>hu8.frzAt (by omega) (NF1.out w.heap.size (by omega) (by omega)) (HKW.out.frz (a:=⟨w.heap.size,o,none⟩) (by show w.heap.size < _;omega) (rf o));have HU8:=Lib.hid hu8;have HS8:=Lib.hid hS8;have hs8:=hu8.size;clear hu8 hS8) | fail)
     refine bodyPost_ret (v:=.tuple #[.agg #[.int .u8 (⟨0,0⟩:Edge).tag,.int .u32 (⟨0,0⟩:Edge).to],.int .u8 er]) (by simp [results,Tryz.results41,go_sem,p0,p1]) rfl ?_
     have hS9:=HS8.out
     rw [HSM.out he0] at hS9
     refine ⟨er,M1,ids,Grow F1 wc w8,⟨0,0⟩,HBD.out he0,rfl,by rw [if_neg he0],((HU0.out.trans' (HKW.out.upd _)).later HU8.out (fun j h1 h2=>(HF1.out j h2).elim (fun h=>h) (fun h=>by omega))).fresh (updX2 w8 w.heap.size 0 1 _ _) (Nat.le_refl _),hS9.keep (updX2 w8 w.heap.size 0 1 _ _) (fun k hk e=>?_),fun j hj=>?_⟩
     ·have e2:k=w.heap.size:=e
      rcases hk with hk | hk
      ·exact NF1.out k (by omega) (by omega) hk
      ·omega
     ·rcases hj with hj | hj
      ·exact (HF1.out j hj).imp (fun h=>h) (fun h=>by omega)
      ·exact .inr (by omega)
  ·have hiN:i=N:=by omega
   have HX:Hid (putL l M []=(0,M1,ids)):=Lib.hid (by have q:=HA.out;rw [hiN,HN.out] at q;exact q.end)
   have HAT:=Lib.hid (fun (W:World) (hW:Keeps wr W)=>at1_calls (HI.out.keeps hW) e ⟨⟨HE.out.tag.1,by have:=HE.out.tag.2;omega⟩,HE.out.at'.1,by have:=HE.out.at'.2;have:=HN.out;omega⟩ (fun h2=>by have:=HE.out.at'.2;have:=HN.out;omega) (by omega))
   obtain ⟨x,hx⟩:∃ x,x=atR ids e:=⟨_,rfl⟩
   rw [← hx] at HAT
   have HXE:=Lib.hid hx
   have i1:¬ ((i:Int) < (N:Int)):=by omega
   clear hx
   go_wp2_with (first | (go_at_call 84;refine (HAT.out _ (by (exact kp))).mono ?_;rintro e' w5 ⟨rfl,hk5⟩;have r0':=hk5.cell r0;have r1':=hk5.cell r1;have hs5:=hk5.size;have rf':=fun o:Nat=>hk5.frz (a:=⟨w.heap.size,o,none⟩) (by show w.heap.size < _;omega) (rf o)) | fail)
   refine bodyPost_ret (v:=.tuple #[.agg #[.int .u8 x.tag,.int .u32 x.to],.int .u8 0]) (by simp [results,Tryz.results41,go_sem,r0',r1']) rfl ?_
   exact ⟨0,M1,ids,F1,x,HX.out,rfl,by rw [if_pos rfl];exact HXE.out,(HU0.out.trans' (hk5.upd F)).fresh (updX2 w5 w.heap.size 0 1 _ _) (Nat.le_refl _),(HS1.out.keeps hk5).keep (updX2 w5 w.heap.size 0 1 _ _) (fun k hk e=>by have e2:k=w.heap.size:=e;exact NF1.out k (by omega) (by omega) hk),fun j hj=>(HF1.out j hj).imp (fun h=>h) (fun h=>by omega)⟩

end Go.Proofs.YtfpjogpjocedaaaGreat
