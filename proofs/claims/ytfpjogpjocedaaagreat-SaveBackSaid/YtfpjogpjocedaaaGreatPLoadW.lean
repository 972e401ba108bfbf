/-
  save.good: the text of good bytes, or that there is none.
-/
import Derived.Test.YtfpjogpjocedaaaGreatPTextW
import Derived.Test.YtfpjogpjocedaaaGreatPTextX
namespace Go.Proofs.YtfpjogpjocedaaaGreat
set_option linter.unusedSimpArgs false
set_option linter.unusedVariables false
set_option maxHeartbeats 600000
open Go Go.RowKit

theorem TxtRep.keeps {base:Nat} {w w':World} {tb:Nat} {n f:Int} {perm:List Int} {k:Int} {l:List Rec} {e:Edge} (h:TxtRep base w tb n f perm k l e) (hk:Keeps w w'):TxtRep base w' tb n f perm k l e:=
 h.upd (hk.upd (fun _=>False)) (fun _ _ _ _ _ _ _ h=>h)

theorem TxtRep.perm {base:Nat} {w:World} {tb:Nat} {n f:Int} {perm:List Int} {k:Int} {l:List Rec} {e:Edge} (h:TxtRep base w tb n f perm k l e):∃ pa pcap,w.cell? ⟨tb,2,none⟩=some (.slice pa perm.length pcap) ∧ IntsAt w pa perm:=by
 obtain ⟨⟨pv,lv,h1,h2,h3⟩,h4⟩:=h
 obtain ⟨pa,pcap,rfl,hp⟩:=owns_slice h2
 refine ⟨pa,pcap,by rw [cell_of_row w tb 2 _ _ _ h1];rfl,fun i x hx=>?_⟩
 have hi:=(List.getElem?_eq_some_iff.1 hx).1
 obtain ⟨g,rfl⟩:=hp (by omega)
 refine ⟨g,0,rfl,?_⟩
 have hc:=World.ownsRow.cellAt h2 (j:=i) (by omega)
 rw [Nat.zero_add,hc,List.getElem?_map,hx]
 rfl

theorem TxtRep.rows {base:Nat} {w:World} {tb:Nat} {n f:Int} {perm:List Int} {k:Int} {l:List Rec} {e:Edge} (h:TxtRep base w tb n f perm k l e):∃ la lcap,w.cell? ⟨tb,4,none⟩=some (.slice la l.length lcap):=by
 obtain ⟨⟨pv,lv,h1,h2,h3⟩,h4⟩:=h
 obtain ⟨la,lcap,rfl,hp⟩:=owns_slice h3
 exact ⟨la,lcap,by rw [cell_of_row w tb 4 _ _ _ h1];rfl⟩

theorem putL_ids:∀ (l:List Rec) (M:St) (ids:List Int),M.wf → (∀ x ∈ ids,look M.cs x ≠ none) → (putL l M ids).1=0 → ∀ x ∈ (putL l M ids).2.2,look (putL l M ids).2.1.cs x ≠ none:=by
 intro l
 induction l with
 | nil=>intro M ids _ h _;exact h
 | cons x l ih=>
  intro M ids hM hi h0
  unfold putL at h0 ⊢
  by_cases he:M.findErr (atRec ids x)=0
  ·rw [if_pos he] at h0 ⊢
   refine ih _ _ (hM.find _) (fun y hy=>?_) h0
   rcases List.mem_append.1 hy with hy | hy
   ·cases hl:look M.cs y with
    | none=>exact absurd hl (hi y hy)
    | some r=>rw [(findSt_ext hM _).sub y r hl];simp
   ·rw [List.mem_singleton] at hy
    rw [hy,find_zero2 hM he]
    simp
  ·rw [if_neg he] at h0
   exact absurd h0 he

theorem good_only {bs:List Int} {T T':Txt} {er:Int} {M1 M1':St} {ids ids':List Int} (h:readB bs=some T) (hp:putL T.l (St.new (T.vars:Int) (T.l.length:Int)) []=(er,M1,ids)) (hg:GoodB bs T' M1' ids'):er=0 ∧ permB T.perm=true ∧ kRight M1 (T.form:Int) (atR ids T.e) 0=true ∧ saveB M1 T.perm (T.form:Int) (atR ids T.e)=bs:=by
 have e1:=hg.read
 rw [h] at e1
 cases e1
 have e2:=hg.put
 rw [hp] at e2
 cases e2
 exact ⟨rfl,hg.perm,hg.right,hg.bytes⟩

theorem isBs_app {a b:List Int} (h1:IsBs a) (h2:IsBs b):IsBs (a ++ b):=fun x hx=>(List.mem_append.1 hx).elim (h1 x) (h2 x)

theorem isBs_flat {α:Type} (g:α → List Int) (hg:∀ x,IsBs (g x)) (l:List α):IsBs (l.flatMap g):=fun x hx=>by
 obtain ⟨y,_,hy⟩:=List.mem_flatMap.1 hx
 exact hg y x hy

theorem isBs_put (n:Nat):IsBs (putB n):=fun x hx=>putB_range (n + 1) n (by omega) x hx

theorem isBs_nil:IsBs []:=fun x hx=>by cases hx

theorem edgeB_bs (f:Int) (S:List Int) (e:Edge):IsBs (edgeB f S e):=by
 unfold edgeB
 refine isBs_app (isBs_put _) ?_
 split
 ·exact isBs_put _
 ·exact isBs_nil

theorem saveB_bs (M:St) (ps:List Int) (f:Int) (e:Edge):IsBs (saveB M ps f e):=by
 unfold saveB recsB
 refine isBs_app (isBs_app (isBs_app (isBs_app (isBs_app (isBs_put _) (isBs_put _)) (isBs_flat _ (fun x=>isBs_put _) _)) (isBs_put _)) (isBs_flat _ (fun x=>?_) _)) (edgeB_bs _ _ _)
 unfold recB
 refine isBs_app (isBs_app (isBs_app (isBs_put _) ?_) (edgeB_bs _ _ _)) (edgeB_bs _ _ _)
 split
 ·exact isBs_put _
 ·exact isBs_nil

theorem numM_few {M:St} (h:M.wf) (hf:FitA M) (hc:M.cs.length ≤ 1048576) (id:Int):(numM M id []).length ≤ 1048576:=by
 have hS:NumOk M (numM M id []):=(NumOk.nil M).next h hf id
 refine Nat.le_trans (ids_few M.cs.length _ hS.once (fun x hx=>?_)) hc
 cases hk:look M.cs x with
 | none=>exact absurd hk (hS.known x hx)
 | some r=>obtain ⟨a,c,_⟩:=look_some hk;exact ⟨a,c⟩

def GoodOut (bs:List Int) (w:World) (e:Ending) (w':World):Prop:=
 Keeps w w' ∧ ((∃ T M1 ids tb,GoodB bs T M1 ids ∧ FitA M1 ∧ (atR ids T.e).ok ∧ (numM M1 (atR ids T.e).to []).length ≤ 1048576 ∧ e=.returned (.tuple #[.pointer (some ⟨tb,0,none⟩),.int .u8 0]) ∧ TxtRep w.heap.size w' tb T.vars T.form T.perm T.l.length T.l T.e) ∨
  ((∀ T M1 ids,¬ GoodB bs T M1 ids) ∧ e=.returned (.tuple #[.pointer none,.int .u8 7])))

set_option maxRecDepth 100000 in
set_option maxHeartbeats 2000000 in
theorem good_calls (a:Option Addr) (cap:Nat) (bs:List Int) (w:World) (h:BsAt w a bs) (hb:IsBs bs) (hl:bs.length ≤ 1048576) (hc:bs.length ≤ cap) :
  Calls Tryz.prog 37 #[.slice a bs.length cap] w (GoodOut bs w):=by
 have HR:=Lib.hid (read_calls a cap bs w h hb (by omega) hc)
 have HBA:=Lib.hid h
 have HIB:=Lib.hid hb
 obtain ⟨K,hK⟩:∃ K,K=bs.length:=⟨_,rfl⟩
 rw [← hK] at HR hl ⊢
 have HK:=Lib.hid hK
 clear h hb hc hK
 by_cases hr:∃ T,readB bs=some T
 ·obtain ⟨T,hT⟩:=hr
  have ht:=readB_ok hT
  have hfm:isFormB (T.form:Int)=true:=by have:=ht.form;unfold isFormB;simp;omega
  have h16:=ht.vars
  have hfew:=ht.few
  have hfo:=ht.form
  rw [← HK.out] at hfew
  have HRD:=Lib.hid hT
  have HTO:=Lib.hid ht
  have HFM:=Lib.hid hfm
  clear hT ht hfm
  go_enter Tryz.func37,Tryz.ntmps37
  go_wp2_with fail
  refine HR.out.mono ?_
  rintro e w1 ⟨tb,ok,rfl,hok,hTx,hk1⟩
  have hok1:ok=true:=hok.2 ⟨T,HRD.out,HFM.out⟩
  subst hok1
  have hT1:=hTx T HRD.out
  have HT1:=Lib.hid hT1
  have HK1:=Lib.hid hk1
  obtain ⟨pa,pcap,c2,hpi⟩:=hT1.perm
  obtain ⟨la,lcap,c4⟩:=hT1.rows
  have c0:=hT1.cells.1
  have c1:=hT1.cells.2.1
  have HO:=Lib.hid (fun (W:World) (hW:Keeps w1 W)=>orderOf_calls pa pcap T.perm W (hpi.keeps hW) (by have:=HTO.out.perm.1;omega))
  have HPI:=Lib.hid hpi
  obtain ⟨PL,hPL⟩:∃ PL,PL=T.perm.length:=⟨_,rfl⟩
  obtain ⟨LL,hLL⟩:∃ LL,LL=T.l.length:=⟨_,rfl⟩
  obtain ⟨V,hV⟩:∃ V,V=T.vars:=⟨_,rfl⟩
  rw [← hPL] at c2 HO
  rw [← hLL] at c4 hfew
  rw [← hV] at c0 h16
  have HPL:=Lib.hid hPL
  have HLL:=Lib.hid hLL
  have HV:=Lib.hid hV
  have tlt:tb < w1.heap.size:=lt_of_cell c0
  clear hok hTx hT1 hk1 hpi hPL hLL hV
  cases hp:permB T.perm with
  | false=>
   rw [hp] at HO
   simp only [Bool.false_eq_true,if_false] at HO
   have HP:=Lib.hid hp
   clear hp
   go_wp2_with (first | (go_at_call 9;refine (HO.out _ (by (exact kp))).mono ?_;rintro e w2 ⟨hk2,rfl⟩) | fail)
   go_ret2
   exact ⟨HK1.out.trans hk2,.inr ⟨fun T' M' ids' hg=>(by have e1:=hg.read;rw [HRD.out] at e1;cases e1;have q:=hg.perm;rw [HP.out] at q;exact absurd q (by simp)),rfl⟩⟩
  | true=>
   rw [hp] at HO
   simp only [if_true] at HO
   have HP:=Lib.hid hp
   clear hp
   go_wp2_with (first | (go_at_call 9;refine (HO.out _ (by (exact kp))).mono ?_;rintro e w2 ⟨hk2,ob,Fo,rfl,-,-⟩;replace c0:=hk2.cell c0;replace c1:=hk2.cell c1;replace c2:=hk2.cell c2;replace c4:=hk2.cell c4) | fail)
   have HNW:=Lib.hid (fun (W:World)=>store_new (V:Int) (LL:Int) W (by omega) (by omega) (by omega) (by omega))
   go_cut [8,9] (fun s8 s9 wx=>∃ sb F,s8=.pointer (some ⟨sb,0,none⟩) ∧ s9=.int .u8 0 ∧ Keeps w2 wx ∧ (∀ k,F k → w2.heap.size ≤ k) ∧ StoreRep F wx sb (St.new (V:Int) (LL:Int)))
   case first=>
      refine wp_region_any (by kernel_rfl) ?_
      obtain ⟨W9,hW9⟩:∃ W9,W9=w2.drew:=⟨_,rfl⟩
      have hkd:Keeps w2 W9:=by rw [hW9];exact (Keeps.refl w2).drew
      replace c0:=hkd.cell c0
      replace c4:=hkd.cell c4
      show wpAny Tryz.prog .any _ _ _ _ _ w2.drew
      rw [← hW9]
      clear hW9
      refine wpAny_take (i:=0) (v:=?_) rfl (by kernel_rfl) (by kernel_rfl) (by kernel_rfl) (fun _ _ _ h=>h) (Or.inl ⟨by rfl,?_⟩) ?_
      rotate_left
      ·intro w;go_simp;try with_reducible rfl
      refine wpAny_take (i:=1) (v:=?_) rfl (by kernel_rfl) (by kernel_rfl) (by kernel_rfl) (fun _ _ _ h=>h) (Or.inl ⟨by rfl,?_⟩) ?_
      rotate_left
      ·intro w;go_simp;try with_reducible rfl
      refine wpAny_take (i:=2) (v:=?_) rfl (by kernel_rfl) (by kernel_rfl) (by kernel_rfl) (fun _ _ _ h=>h) (Or.inl ⟨by rfl,?_⟩) ?_
      rotate_left
      ·intro w;go_simp;try with_reducible rfl
      refine wpAny_take (i:=3) (v:=?_) rfl (by kernel_rfl) (by kernel_rfl) (by kernel_rfl) (fun _ _ _ h=>h) (Or.inl ⟨by rfl,?_⟩) ?_
      rotate_left
      ·intro w;go_simp;try with_reducible rfl
      refine wpAny_take (i:=5) (v:=?_) rfl (by kernel_rfl) (by kernel_rfl) (by kernel_rfl) (fun _ _ _ h=>h) (Or.inl ⟨by rfl,?_⟩) ?_
      rotate_left
      ·intro w;go_simp;try with_reducible rfl
      refine wpAny_take (i:=6) (v:=?_) rfl (by kernel_rfl) (by kernel_rfl) (by kernel_rfl) (fun _ _ _ h=>h) (Or.inl ⟨by rfl,?_⟩) ?_
      rotate_left
      ·intro w;go_simp;try with_reducible rfl
      refine wpAny_take (i:=7) (v:=?_) rfl (by kernel_rfl) (by kernel_rfl) (by kernel_rfl) (fun _ _ _ h=>h) (Or.inl ⟨by rfl,?_⟩) ?_
      rotate_left
      ·intro w;go_simp;try with_reducible rfl
      refine wpAny_ready (rs:=[4,8]) (by kernel_rfl) (by decide) (AllReady.cons rfl (fun K hK=>?_) (AllReady.cons rfl (fun K hK=>?_) AllReady.nil))
      ·go_simp
       refine hK _ _ ?_
       clear hK K
       refine wpAny_ready (rs:=[8]) (by kernel_rfl) (by decide) (AllReady.cons rfl (fun K hK=>?_) AllReady.nil)
       go_simp
       refine hK _ _ ?_
       clear hK K
       refine wpAny_take (i:=9) (v:=?_) rfl (by kernel_rfl) (by kernel_rfl) (by kernel_rfl) (fun _ _ _ h=>h) (Or.inl ⟨by rfl,?_⟩) ?_
       rotate_left
       ·intro w;go_simp;try with_reducible rfl
       refine wpAny_ready (rs:=[10]) (by kernel_rfl) (by decide) (AllReady.cons rfl (fun K hK=>?_) AllReady.nil)
       go_simp
       refine (HNW.out _).mono ?_
       rintro e w5 ⟨sb,F,rfl,hk5,hF5,hS5⟩
       refine hK _ _ ?_
       clear hK K
       refine wpAny_take (i:=11) (v:=?_) rfl (by kernel_rfl) (by kernel_rfl) (by kernel_rfl) (fun _ _ _ h=>h) (Or.inl ⟨by rfl,?_⟩) ?_
       rotate_left
       ·intro w;go_simp;try with_reducible rfl
       refine wpAny_take (i:=12) (v:=?_) rfl (by kernel_rfl) (by kernel_rfl) (by kernel_rfl) (fun _ _ _ h=>h) (Or.inl ⟨by rfl,?_⟩) ?_
       rotate_left
       ·intro w;go_simp;try with_reducible rfl
       refine wpAny_take (i:=13) (v:=?_) rfl (by kernel_rfl) (by kernel_rfl) (by kernel_rfl) (fun _ _ _ h=>h) (Or.inl ⟨by rfl,?_⟩) ?_
       rotate_left
       ·intro w;go_simp;try with_reducible rfl
       refine wpAny_take (i:=14) (v:=?_) rfl (by kernel_rfl) (by kernel_rfl) (by kernel_rfl) (fun _ _ _ h=>h) (Or.inl ⟨by rfl,?_⟩) ?_
       rotate_left
       ·intro w;go_simp;try with_reducible rfl
       refine wpAny_take (i:=15) (v:=?_) rfl (by kernel_rfl) (by kernel_rfl) (by kernel_rfl) (fun _ _ _ h=>h) (Or.inl ⟨by rfl,?_⟩) ?_
       rotate_left
       ·intro w;go_simp;try with_reducible rfl
       refine wpAny_done (by kernel_rfl) ?_ _
       go_wp2_with fail
       go_meet
       exact ⟨sb,F,rfl,rfl,hkd.trans hk5,fun k hk=>Nat.le_trans hkd.size (hF5 k hk),hS5⟩
      ·go_simp
       refine hK _ _ ?_
       clear hK K
       refine wpAny_take (i:=9) (v:=?_) rfl (by kernel_rfl) (by kernel_rfl) (by kernel_rfl) (fun _ _ _ h=>h) (Or.inl ⟨by rfl,?_⟩) ?_
       rotate_left
       ·intro w;go_simp;try with_reducible rfl
       refine wpAny_ready (rs:=[4]) (by kernel_rfl) (by decide) (AllReady.cons rfl (fun K hK=>?_) AllReady.nil)
       go_simp
       refine hK _ _ ?_
       clear hK K
       refine wpAny_ready (rs:=[10]) (by kernel_rfl) (by decide) (AllReady.cons rfl (fun K hK=>?_) AllReady.nil)
       go_simp
       refine (HNW.out _).mono ?_
       rintro e w5 ⟨sb,F,rfl,hk5,hF5,hS5⟩
       refine hK _ _ ?_
       clear hK K
       refine wpAny_take (i:=11) (v:=?_) rfl (by kernel_rfl) (by kernel_rfl) (by kernel_rfl) (fun _ _ _ h=>h) (Or.inl ⟨by rfl,?_⟩) ?_
       rotate_left
       ·intro w;go_simp;try with_reducible rfl
       refine wpAny_take (i:=12) (v:=?_) rfl (by kernel_rfl) (by kernel_rfl) (by kernel_rfl) (fun _ _ _ h=>h) (Or.inl ⟨by rfl,?_⟩) ?_
       rotate_left
       ·intro w;go_simp;try with_reducible rfl
       refine wpAny_take (i:=13) (v:=?_) rfl (by kernel_rfl) (by kernel_rfl) (by kernel_rfl) (fun _ _ _ h=>h) (Or.inl ⟨by rfl,?_⟩) ?_
       rotate_left
       ·intro w;go_simp;try with_reducible rfl
       refine wpAny_take (i:=14) (v:=?_) rfl (by kernel_rfl) (by kernel_rfl) (by kernel_rfl) (fun _ _ _ h=>h) (Or.inl ⟨by rfl,?_⟩) ?_
       rotate_left
       ·intro w;go_simp;try with_reducible rfl
       refine wpAny_take (i:=15) (v:=?_) rfl (by kernel_rfl) (by kernel_rfl) (by kernel_rfl) (fun _ _ _ h=>h) (Or.inl ⟨by rfl,?_⟩) ?_
       rotate_left
       ·intro w;go_simp;try with_reducible rfl
       refine wpAny_done (by kernel_rfl) ?_ _
       go_wp2_with fail
       go_meet
       exact ⟨sb,F,rfl,rfl,hkd.trans hk5,fun k hk=>Nat.le_trans hkd.size (hF5 k hk),hS5⟩
   case rest=>
    obtain ⟨sb,F,rfl,rfl,hk5,hF5,hS5⟩:=hcut
    have hT2:=HT1.out.keeps hk2
    have t2lt:tb < w2.heap.size:=by have:=hk2.size;omega
    have hTF:∀ W,Upd F wc W → TxtRep w.heap.size W tb T.vars T.form T.perm T.l.length T.l T.e:=fun W hW=>by
     refine TxtRep.upd (G:=fun j=>w2.heap.size ≤ j) hT2 ((hk5.upd _).later hW (fun j _ hj=>hF5 j hj)) (fun j cs t q hj _ _=>?_)
     have:=lt_of_heap hj
     omega
    have HPUT:=Lib.hid (textPut_calls hS5 hTF (fun hh=>by have:=hF5 _ hh;omega) HTO.out.l HTO.out.e (by omega) (by rw [← HLL.out];omega))
    have HTF:=Lib.hid hTF
    have HK5:=Lib.hid (hk2.trans hk5)
    have HF5:=Lib.hid hF5
    have HK2:=Lib.hid hk2
    replace c0:=hk5.cell c0
    replace c1:=hk5.cell c1
    replace c2:=hk5.cell c2
    replace c4:=hk5.cell c4
    have s5:=hk5.size
    clear hT2 hTF hS5 hk5 hF5
    go_wp2_with fail
    refine HPUT.out.mono ?_
    rintro e w6 ⟨er,M1,ids,F',x,hput,rfl,hx,hu6,hS6,hF6⟩
    have nF:¬ F tb:=fun hh=>by have:=HF5.out _ hh;omega
    replace c0:=hu6.cellAt nF c0
    replace c1:=hu6.cellAt nF c1
    replace c2:=hu6.cellAt nF c2
    replace c4:=hu6.cellAt nF c4
    have hT6:=HTF.out w6 hu6
    have hk6:Keeps w1 w6:=HK5.out.new hu6 (fun k hk=>by have:=HF5.out k hk;have:=HK2.out.size;omega)
    have HT6:=Lib.hid hT6
    have HK6:=Lib.hid (HK1.out.trans hk6)
    have HPI6:=Lib.hid (HPI.out.keeps hk6)
    have hput2:putL T.l (St.new (T.vars:Int) (T.l.length:Int)) []=(er,M1,ids):=by rw [← HV.out,← HLL.out];exact hput
    have HPUT2:=Lib.hid hput2
    have HS6:=Lib.hid hS6
    have HX:=Lib.hid hx
    clear hput hput2 hu6 hS6 hF6 hT6 hk6 hx
    by_cases he0:er=0
    ·subst he0
     have hxe:x=atR ids T.e:=by have q:=HX.out;rw [if_pos rfl] at q;exact q
     have hM0:(St.new (T.vars:Int) (T.l.length:Int)).wf:=St.new_wf (by omega) (by have:=HTO.out.vars;omega) (by omega) (by have:=HLL.out;omega)
     have hids:∀ y ∈ ids,2 ≤ y ∧ y ≤ 4294967295:=fun y hy=>by
      have q:=putL_ids T.l _ [] hM0 (fun y hy=>by cases hy) (by rw [HPUT2.out]) y (by rw [HPUT2.out];exact hy)
      rw [HPUT2.out] at q
      exact id_range HS6.out.wf (by have:=HS6.out.few;omega) q
     have hxo:x.ok:=by
      have ht:=HTO.out.e.tag
      have ha:=HTO.out.e.at'
      rw [hxe]
      unfold atR
      split
      ·refine ⟨⟨ht.1,by show T.e.tag ≤ 255;omega⟩,?_⟩
       show 0 ≤ (ids[(T.e.to - 2).toNat]?).getD 0 ∧ (ids[(T.e.to - 2).toNat]?).getD 0 ≤ 4294967295
       cases hg:ids[(T.e.to - 2).toNat]? with
       | none=>exact ⟨by decide,by decide⟩
       | some y=>have:=hids y (List.mem_of_getElem? hg);exact ⟨by show 0 ≤ y;omega,this.2⟩
      ·exact ⟨⟨ht.1,by omega⟩,ha.1,by have:=HLL.out;omega⟩
     have HRT:=Lib.hid (fun (W:World) (hW:Keeps w6 W)=>canon_right (HS6.out.keeps hW) (T.form:Int) x 0 hxo)
     have HXO:=Lib.hid hxo
     have HXE:=Lib.hid hxe
     clear hids hM0 hxo hxe
     go_wp2_with fail
     obtain ⟨W7,hW7⟩:∃ W,W=w6.alloc (.cells #[.int .u8 x.tag,.int .u32 x.to] 37):=⟨_,rfl⟩
     have hk7:Keeps w6 W7:=by rw [hW7];exact (Keeps.refl w6).alloc _
     have b0:W7.cell? ⟨w6.heap.size,0,none⟩=some (.int .u8 x.tag):=by rw [hW7];simp
     have b1:W7.cell? ⟨w6.heap.size,1,none⟩=some (.int .u32 x.to):=by rw [hW7];simp
     replace c1:=hk7.cell c1
     replace c2:=hk7.cell c2
     have X7:w6.heap.size < W7.heap.size:=by rw [hW7];simp
     have tl7:tb < W7.heap.size:=lt_of_cell c1
     rw [← hW7]
     clear hW7
     cases hg:kRight M1 (T.form:Int) x 0 with
     | false=>
      rw [hg] at HRT
      have HG:=Lib.hid hg
      clear hg
      have c1k:=KWorld.cell c1
      have c2k:=KWorld.cell c2
      have b0k:=KWorld.cell b0
      have b1k:=KWorld.cell b1
      refine wp_region_keeps (W7) (by kernel_rfl) (by kernel_rfl) (by (exact kp)) ?_;(repeat (go_big_quiet_step ((first | (go_at_call 62;with_reducible refine Calls.keepsK (HRT.out _ (hk7.trans (KWorld.keep _))))))));refine wpQuiet_nil ?_;rintro wq ⟨⟨_,hkq⟩,rfl⟩;try dsimp only
      go_wp2
      go_ret2
      exact ⟨HK6.out.trans (by (exact kp)),.inr ⟨fun T' M' ids' hg=>(by have q:=(good_only HRD.out HPUT2.out hg).2.2.1;rw [← HXE.out,HG.out] at q;exact absurd q (by simp)),rfl⟩⟩
     | true=>
      rw [hg] at HRT
      have HG:=Lib.hid hg
      have hin:x.to < 2 ∨ look M1.cs x.to ≠ none:=by
       rcases (leads_iff.1 (kRight_lead hg)).2 with h2 | ⟨r,q,_⟩
       ·exact .inl h2
       ·exact .inr (by rw [q];simp)
      have hpr:=HTO.out.perm
      have HWR:=Lib.hid (fun (W:World) (hW:Keeps w6 W)=>written_calls (HS6.out.keeps hW) pa pcap T.perm (HPI6.out.keeps hW) hpr.2 (by have q1:=HTO.out.vars;have q2:=hpr.1;omega) (T.form:Int) ⟨by omega,by omega⟩ x HXO.out hin)
      rw [← HPL.out] at HWR
      have HEQ:=Lib.hid (fun (W:World) (hW:Keeps w W) (a3:Option Addr) (cap3:Nat) (h3:BsAt W a3 (saveB M1 T.perm (T.form:Int) x))=>bytesEqual_calls a3 a cap3 cap (saveB M1 T.perm (T.form:Int) x) bs W h3 (HBA.out.keeps hW) (saveB_bs M1 T.perm (T.form:Int) x) HIB.out)
      rw [← HK.out] at HEQ
      obtain ⟨SB,hSB⟩:∃ SB,SB=saveB M1 T.perm (T.form:Int) x:=⟨_,rfl⟩
      rw [← hSB] at HWR HEQ
      have HSB:=Lib.hid hSB
      clear hg hin hpr hSB
      obtain ⟨SL,hSL⟩:∃ SL,SL=SB.length:=⟨_,rfl⟩
      by_cases hsame:SB=bs
      ·rw [decide_eq_true hsame,← hSL] at HEQ
       have HSA:=Lib.hid hsame
       have HSL:=Lib.hid hSL
       clear hsame hSL
       go_region_held3 (fun w'=>w'.cell? ⟨tb,1,none⟩=some (.int .u8 (T.form:Int)) ∧ w'.cell? ⟨tb,2,none⟩=some (.slice pa PL pcap) ∧ w'.cell? ⟨w6.heap.size,0,none⟩=some (.int .u8 x.tag) ∧ w'.cell? ⟨w6.heap.size,1,none⟩=some (.int .u32 x.to)) (go_keep) ((first
        | (go_at_call 62;refine (HRT.out _ (by (exact kp))).mono ?_;rintro e' w8 ⟨rfl,hk8⟩;have y0:=hk8.cell (a:=⟨tb,1,none⟩) (v:=.int .u8 (T.form:Int)) (by go_keep);have y1:=hk8.cell (a:=⟨tb,2,none⟩) (v:=.slice pa PL pcap) (by go_keep);have y2:=hk8.cell (a:=⟨w6.heap.size,0,none⟩) (v:=.int .u8 x.tag) (by go_keep);have y3:=hk8.cell (a:=⟨w6.heap.size,1,none⟩) (v:=.int .u32 x.to) (by go_keep))
        | (go_at_call 63;refine (HWR.out _ (by (exact kp))).mono ?_;rintro e' w9 ⟨v9,rfl,hbs9,hk9⟩;obtain ⟨a9,cap9,rfl,hat9⟩:=hbs9.slice;rw [← HSL.out];have z0:=hk9.cell (a:=⟨tb,1,none⟩) (v:=.int .u8 (T.form:Int)) (by go_keep);have z1:=hk9.cell (a:=⟨tb,2,none⟩) (v:=.slice pa PL pcap) (by go_keep);have z2:=hk9.cell (a:=⟨w6.heap.size,0,none⟩) (v:=.int .u8 x.tag) (by go_keep);have z3:=hk9.cell (a:=⟨w6.heap.size,1,none⟩) (v:=.int .u32 x.to) (by go_keep))
        | (go_at_call 83;refine (HEQ.out _ (HK6.out.trans (by (exact kp))) _ _ hat9).mono ?_;rintro e' w10 ⟨rfl,rfl⟩)
        | fail))
       all_goals go_wp2
       all_goals go_ret2
       all_goals exact ⟨HK6.out.trans (by (exact kp)),.inl ⟨T,M1,ids,tb,⟨by rw [← HLL.out];omega,HRD.out,HP.out,HPUT2.out,by rw [← HXE.out];exact HG.out,by rw [← HXE.out,← HSB.out];exact HSA.out⟩,fun id r hl=>HS6.out.fit hl,by rw [← HXE.out];exact HXO.out,numM_few HS6.out.wf (fun id r hl=>HS6.out.fit hl) HS6.out.few _,rfl,HT6.out.keeps (by (exact kp))⟩⟩
      ·rw [decide_eq_false hsame,← hSL] at HEQ
       have HSA:=Lib.hid hsame
       have HSL:=Lib.hid hSL
       clear hsame hSL
       go_region_held3 (fun w'=>w'.cell? ⟨tb,1,none⟩=some (.int .u8 (T.form:Int)) ∧ w'.cell? ⟨tb,2,none⟩=some (.slice pa PL pcap) ∧ w'.cell? ⟨w6.heap.size,0,none⟩=some (.int .u8 x.tag) ∧ w'.cell? ⟨w6.heap.size,1,none⟩=some (.int .u32 x.to)) (go_keep) ((first
        | (go_at_call 62;refine (HRT.out _ (by (exact kp))).mono ?_;rintro e' w8 ⟨rfl,hk8⟩;have y0:=hk8.cell (a:=⟨tb,1,none⟩) (v:=.int .u8 (T.form:Int)) (by go_keep);have y1:=hk8.cell (a:=⟨tb,2,none⟩) (v:=.slice pa PL pcap) (by go_keep);have y2:=hk8.cell (a:=⟨w6.heap.size,0,none⟩) (v:=.int .u8 x.tag) (by go_keep);have y3:=hk8.cell (a:=⟨w6.heap.size,1,none⟩) (v:=.int .u32 x.to) (by go_keep))
        | (go_at_call 63;refine (HWR.out _ (by (exact kp))).mono ?_;rintro e' w9 ⟨v9,rfl,hbs9,hk9⟩;obtain ⟨a9,cap9,rfl,hat9⟩:=hbs9.slice;rw [← HSL.out];have z0:=hk9.cell (a:=⟨tb,1,none⟩) (v:=.int .u8 (T.form:Int)) (by go_keep);have z1:=hk9.cell (a:=⟨tb,2,none⟩) (v:=.slice pa PL pcap) (by go_keep);have z2:=hk9.cell (a:=⟨w6.heap.size,0,none⟩) (v:=.int .u8 x.tag) (by go_keep);have z3:=hk9.cell (a:=⟨w6.heap.size,1,none⟩) (v:=.int .u32 x.to) (by go_keep))
        | (go_at_call 83;refine (HEQ.out _ (HK6.out.trans (by (exact kp))) _ _ hat9).mono ?_;rintro e' w10 ⟨rfl,rfl⟩)
        | fail))
       all_goals go_wp2
       all_goals go_ret2
       all_goals exact ⟨HK6.out.trans (by (exact kp)),.inr ⟨fun T' M' ids' hg=>HSA.out (by have q:=(good_only HRD.out HPUT2.out hg).2.2.2;rw [← HXE.out,← HSB.out] at q;exact q),rfl⟩⟩
    ·have gne:(er != 0)=true:=by simp [he0]
     go_wp2_with fail
     go_quiet (fail)
     go_wp2
     go_ret2
     exact ⟨HK6.out.trans (by (exact kp)),.inr ⟨fun T' M' ids' hg=>he0 (good_only HRD.out HPUT2.out hg).1,rfl⟩⟩
 ·go_enter Tryz.func37,Tryz.ntmps37
  go_wp2_with fail
  refine HR.out.mono ?_
  rintro e w1 ⟨tb,ok,rfl,hok,hTx,hk1⟩
  have hok1:ok=false:=by
   cases ok with
   | false=>rfl
   | true=>obtain ⟨T,hT,_⟩:=hok.1 rfl;exact absurd ⟨T,hT⟩ hr
  subst hok1
  clear hok hTx
  go_wp2_with fail
  go_ret2
  exact ⟨hk1,.inr ⟨fun T' M' ids' hg=>hr ⟨T',hg.read⟩,rfl⟩⟩

structure GoodF (bs:List Int) (T:Txt) (M1:St) (ids:List Int):Prop where
 good:GoodB bs T M1 ids
 fit:FitA M1
 ok:(atR ids T.e).ok
 few:(numM M1 (atR ids T.e).to []).length ≤ 1048576

def LoadOut (F:Nat → Prop) (w:World) (sb:Nat) (M:St) (ps bs:List Int) (e:Ending) (w':World):Prop:=
 (M.n ≠ (ps.length:Int) ∧ e=.returned (.tuple #[.int .u8 0,.agg #[.int .u8 (⟨0,0⟩:Edge).tag,.int .u32 (⟨0,0⟩:Edge).to],.int .u8 1]) ∧ Keeps w w') ∨
 (M.n=(ps.length:Int) ∧ (∀ T M1 ids,¬ GoodB bs T M1 ids) ∧ e=.returned (.tuple #[.int .u8 0,.agg #[.int .u8 (⟨0,0⟩:Edge).tag,.int .u32 (⟨0,0⟩:Edge).to],.int .u8 7]) ∧ Keeps w w') ∨
 (M.n=(ps.length:Int) ∧ ∃ T M1 ids,GoodF bs T M1 ids ∧ ((T.perm ≠ ps ∧ e=.returned (.tuple #[.int .u8 0,.agg #[.int .u8 (⟨0,0⟩:Edge).tag,.int .u32 (⟨0,0⟩:Edge).to],.int .u8 8]) ∧ Keeps w w') ∨
   (T.perm=ps ∧ ∃ er M' ids' F',putL T.l M []=(er,M',ids') ∧ ((er=0 ∧ ∃ x,x=atR ids' T.e ∧ e=.returned (.tuple #[.int .u8 (T.form:Int),.agg #[.int .u8 x.tag,.int .u32 x.to],.int .u8 0])) ∨ (er ≠ 0 ∧ e=.returned (.tuple #[.int .u8 0,.agg #[.int .u8 (⟨0,0⟩:Edge).tag,.int .u32 (⟨0,0⟩:Edge).to],.int .u8 er]))) ∧ Upd F w w' ∧ StoreRep F' w' sb M' ∧ (∀ j,F' j → F j ∨ w.heap.size ≤ j))))

set_option maxRecDepth 100000 in
set_option maxHeartbeats 2000000 in
theorem load_calls {F Fo:Nat → Prop} {w:World} {sb ob:Nat} {M:St} {ps:List Int} (h:StoreRep F w sb M) (ho:OrdRep Fo w ob ps) (a:Option Addr) (cap:Nat) (bs:List Int) (hba:BsAt w a bs) (hb:IsBs bs) (hl:bs.length ≤ 1048576) (hc:bs.length ≤ cap) :
  Calls Tryz.prog 10 #[.pointer (some ⟨sb,0,none⟩),.pointer (some ⟨ob,0,none⟩),.slice a bs.length cap] w (LoadOut F w sb M ps bs):=by
 have HF:=Lib.hid (fun (W:World) (hW:Keeps w W)=>saveFit_calls (h.keeps hW) (ho.keeps hW))
 have HGD:=Lib.hid (fun (W:World) (hW:Keeps w W)=>good_calls a cap bs W (hba.keeps hW) hb hl hc)
 have HOV:=Lib.hid (fun (W:World) (hW:Keeps w W)=>ordVars_calls (ho.keeps hW))
 have HOP:=Lib.hid (fun (W:World) (hW:Keeps w W)=>ordPerm_calls (ho.keeps hW))
 have HST:=Lib.hid h
 have HFlt:=Lib.hid h.lt
 have hp16:=ho.le
 obtain ⟨K,hK⟩:∃ K,K=bs.length:=⟨_,rfl⟩
 obtain ⟨N,hN⟩:∃ N,N=ps.length:=⟨_,rfl⟩
 rw [← hK] at HGD ⊢
 rw [← hN] at HOV HOP HF hp16
 have HN:=Lib.hid hN
 have olt:ob < w.heap.size:=ho.lt _ ho.own
 have slt:sb < w.heap.size:=h.lt _ h.own
 clear h ho hba hb hl hc hK hN
 by_cases hn:M.n=(N:Int)
 ·rw [if_pos hn] at HF
  have HNN:Hid (M.n=(ps.length:Int)):=Lib.hid (by rw [← HN.out];exact hn)
  clear hn
  go_enter Tryz.func10,Tryz.ntmps10
  go_wp2_with (first | (go_at_call 36;refine (HF.out _ (by (exact kp))).mono ?_;rintro e' w1 ⟨rfl,hk1⟩;have y0:w1.cell? ⟨w.heap.size,0,none⟩=some (.int .u8 0):=hk1.cell (by simp);have y1:w1.cell? ⟨w.heap.size,1,none⟩=some (.int .u32 0):=hk1.cell (by simp);have yf:=fun o:Nat=>hk1.frz (a:=⟨w.heap.size,o,none⟩) (by show w.heap.size < _;simp) (by simp [go_sem]);have s1:=hk1.size;simp only [World.size_alloc] at s1;have hk01:Keeps w w1:=(by (exact kp))) | fail)
  refine (HGD.out _ (by (exact kp))).mono ?_
  rintro e w2 ⟨hk2,hgo⟩
  replace y0:=hk2.cell y0
  replace y1:=hk2.cell y1
  replace yf:=fun o:Nat=>hk2.frz (a:=⟨w.heap.size,o,none⟩) (by show w.heap.size < _;omega) (yf o)
  have s2:=hk2.size
  have hk02:=hk01.trans hk2
  rcases hgo with ⟨T,M1,ids,tb,g1,g2,g3,g4,rfl,hT⟩ | ⟨hno,rfl⟩
  ·have hperm:T.perm.length=T.vars:=(readB_facts g1.read).1
   have HGF:Hid (GoodF bs T M1 ids):=Lib.hid ⟨g1,g2,g3,g4⟩
   have hto:=readB_ok g1.read
   have HTO:=Lib.hid hto
   have h16:=hto.vars
   have hfo:=hto.form
   have HT:=Lib.hid hT
   obtain ⟨pa,pcap,c2,hpi⟩:=hT.perm
   have c0:=hT.cells.1
   have c1:=hT.cells.2.1
   have tlt:tb < w2.heap.size:=lt_of_cell c0
   have htb:=hT.2
   have HPI:=Lib.hid hpi
   have HPE:=Lib.hid hperm
   obtain ⟨PL,hPL⟩:∃ PL,PL=T.perm.length:=⟨_,rfl⟩
   obtain ⟨V,hV⟩:∃ V,V=T.vars:=⟨_,rfl⟩
   rw [← hPL] at c2
   rw [← hV] at c0 h16
   have HPL:=Lib.hid hPL
   have HV:=Lib.hid hV
   have HK02:=Lib.hid hk02
   clear g1 g2 g3 g4 hto hT hpi hPL hV hperm
   by_cases hvn:V=N
   ·obtain rfl:PL=N:=by rw [← hvn,HPL.out,HPE.out,HV.out]
    subst hvn
    have HEQ:=Lib.hid (fun (W:World) (hW:Keeps w2 W) (a3:Option Addr) (cap3:Nat) (h3:IntsAt W a3 ps)=>intsEqual_calls pa a3 pcap cap3 T.perm ps W (HPI.out.keeps hW) h3 (by rw [← HPL.out];omega) (by rw [← HN.out];omega))
    rw [← HPL.out,← HN.out] at HEQ
    have HK2:=Lib.hid hk02
    by_cases hsame:T.perm=ps
    ·rw [decide_eq_true hsame] at HEQ
     have HSA:=Lib.hid hsame
     clear hsame
     go_wp2_with fail
     go_cut [47] (fun s47 wx=>s47=.bool false ∧ Keeps w2 wx)
     case first=>
      go_region_held3 (fun w'=>w'.cell? ⟨tb,0,none⟩=some (.int .i64 (V:Int)) ∧ w'.cell? ⟨tb,2,none⟩=some (.slice pa V pcap)) (go_keep) ((first
       | (go_at_call 38;refine (HOV.out _ (HK2.out.trans (by (exact kp)))).mono ?_;rintro e' w8 ⟨rfl,rfl⟩)
       | (go_at_call 40;refine (HOP.out _ (HK2.out.trans (by (exact kp)))).mono ?_;rintro e' w9 ⟨a9,cap9,rfl,hrow9,hk9⟩;have hi9:=hrow9.ints;have z0:=hk9.cell (a:=⟨tb,0,none⟩) (v:=.int .i64 (V:Int)) (by go_keep);have z2:=hk9.cell (a:=⟨tb,2,none⟩) (v:=.slice pa V pcap) (by go_keep))
       | (go_at_call 39;refine (HEQ.out _ (by (exact kp)) _ _ hi9).mono ?_;rintro e' w10 ⟨rfl,hk10⟩;have z0:=hk10.cell (a:=⟨tb,0,none⟩) (v:=.int .i64 (V:Int)) (by go_keep);have z2:=hk10.cell (a:=⟨tb,2,none⟩) (v:=.slice pa V pcap) (by go_keep))
       | fail))
      all_goals (try go_wp2_with fail)
      all_goals go_meet
      all_goals exact ⟨rfl,by (exact kp)⟩
     case rest=>
      obtain ⟨rfl,hkx⟩:=hcut
      have p0:=hkx.cell y0
      have p1:=hkx.cell y1
      have pf:=fun o:Nat=>hkx.frz (a:=⟨w.heap.size,o,none⟩) (by show w.heap.size < _;omega) (yf o)
      have d1:=hkx.cell c1
      have sx:=hkx.size
      have nlt:∀ k,F k → k < w1.heap.size:=fun k hk=>by have:=HFlt.out k hk;omega
      have hTF:∀ W,Upd F wc W → TxtRep w1.heap.size W tb T.vars T.form T.perm T.l.length T.l T.e:=fun W hW=>by
       refine TxtRep.upd (G:=F) (HT.out.keeps hkx) hW (fun j cs t q hj _ hbj hF=>?_)
       have:=nlt j hF
       omega
      have nF:¬ F tb:=fun hF=>by have:=nlt tb hF;omega
      have nB:¬ F w.heap.size:=fun hF=>by have:=HFlt.out _ hF;omega
      have HPUT:=Lib.hid (textPut_calls (HST.out.keeps (HK2.out.trans hkx)) hTF nF HTO.out.l HTO.out.e (by omega) (by have q1:=HTO.out.few;have q2:=HGF.out.good.few;omega))
      have HKX:=Lib.hid (HK2.out.trans hkx)
      clear hTF hkx nlt
      go_wp2_with fail
      refine HPUT.out.mono ?_
      rintro e w6 ⟨er,M',ids',F',x,hput,rfl,hx,hu6,hS6,hF6⟩
      replace p0:=hu6.cellAt nB p0
      replace p1:=hu6.cellAt nB p1
      replace pf:=fun o:Nat=>hu6.frzAt (by omega) nB (pf o)
      replace d1:=hu6.cellAt nF d1
      have s6:=hu6.size
      have X6:w.heap.size < w6.heap.size:=by omega
      have X6n:w.heap.size ≠ w6.heap.size:=by omega
      have t6:tb < w6.heap.size:=by omega
      have t6n:tb ≠ w6.heap.size:=by omega
      have HU6:=Lib.hid ((HKX.out.upd F).trans' hu6)
      have HS6:=Lib.hid hS6
      have HF6c:=Lib.hid hF6
      have HF6:Hid (∀ j,F' j → F j ∨ w.heap.size ≤ j):=Lib.hid (fun j hj=>(hF6 j hj).imp (fun h=>h) (fun h=>by omega))
      have HPT:=Lib.hid hput
      have HX:=Lib.hid hx
      clear hput hx hu6 hS6 hF6
      by_cases he0:er=0
      ·subst he0
       have hxe:x=atR ids' T.e:=by have q:=HX.out;rw [if_pos rfl] at q;exact q
       have HXE:=Lib.hid hxe
       clear hxe
       go_wp2_with fail
       obtain ⟨W7,hW7⟩:∃ W,W=w6.alloc (.cells #[.int .u8 x.tag,.int .u32 x.to] 37):=⟨_,rfl⟩
       have hk7:Keeps w6 W7:=by rw [hW7];exact (Keeps.refl w6).alloc _
       have r0:W7.cell? ⟨w6.heap.size,0,none⟩=some (.int .u8 x.tag):=by rw [hW7];simp
       have r1:W7.cell? ⟨w6.heap.size,1,none⟩=some (.int .u32 x.to):=by rw [hW7];simp
       rw [← hW7]
       clear hW7
       refine wp_region_any (by kernel_rfl) ?_
       obtain ⟨W9,hW9⟩:∃ W9,W9=W7.drew:=⟨_,rfl⟩
       have hkd:Keeps W7 W9:=by rw [hW9];exact (Keeps.refl W7).drew
       have hk9:=hk7.trans hkd
       replace p0:=hk9.cell p0
       replace p1:=hk9.cell p1
       replace pf:=fun o:Nat=>hk9.frz (a:=⟨w.heap.size,o,none⟩) (by show w.heap.size < _;omega) (pf o)
       replace d1:=hk9.cell d1
       replace r0:=hkd.cell r0
       replace r1:=hkd.cell r1
       show wpAny Tryz.prog .any _ _ _ _ _ W7.drew
       rw [← hW9]
       clear hW9
       refine wpAny_take (i:=0) (v:=?_) rfl (by kernel_rfl) (by kernel_rfl) (by kernel_rfl) (fun _ _ _ h=>h) (Or.inl ⟨by rfl,?_⟩) ?_
       rotate_left
       ·intro w;go_simp;try with_reducible rfl
       refine wpAny_take (i:=1) (v:=?_) rfl (by kernel_rfl) (by kernel_rfl) (by kernel_rfl) (fun _ _ _ h=>h) (Or.inl ⟨by rfl,?_⟩) ?_
       rotate_left
       ·intro w;go_simp;try with_reducible rfl
       refine wpAny_take (i:=2) (v:=?_) rfl (by kernel_rfl) (by kernel_rfl) (by kernel_rfl) (fun _ _ _ h=>h) (Or.inl ⟨by rfl,?_⟩) ?_
       rotate_left
       ·intro w;go_simp;try with_reducible rfl
       refine wpAny_take (i:=3) (v:=?_) rfl (by kernel_rfl) (by kernel_rfl) (by kernel_rfl) (fun _ _ _ h=>h) (Or.inl ⟨by rfl,?_⟩) ?_
       rotate_left
       ·intro w;go_simp;try with_reducible rfl
       refine wpAny_ready (rs:=[4,5]) (by kernel_rfl) (by decide) (AllReady.cons rfl (fun K hK=>?_) (AllReady.cons rfl (fun K hK=>?_) AllReady.nil))
       ·go_simp
        refine hK _ _ ?_
        clear hK K
        refine wpAny_take (i:=6) (v:=?_) rfl (by kernel_rfl) (by kernel_rfl) (by kernel_rfl) (fun _ _ _ h=>h) (Or.inl ⟨by rfl,?_⟩) ?_
        rotate_left
        ·intro w;go_simp;try with_reducible rfl
        refine wpAny_ready (rs:=[5]) (by kernel_rfl) (by decide) (AllReady.cons rfl (fun K hK=>?_) AllReady.nil)
        go_simp
        refine hK _ _ ?_
        clear hK K
        refine wpAny_ready (rs:=[7]) (by kernel_rfl) (by decide) (AllReady.cons rfl (fun K hK=>?_) AllReady.nil)
        go_simp
        refine hK _ _ ?_
        clear hK K
        refine wpAny_take (i:=8) (v:=?_) rfl (by kernel_rfl) (by kernel_rfl) (by kernel_rfl) (fun _ _ _ h=>h) (Or.inl ⟨by rfl,?_⟩) ?_
        rotate_left
        ·intro w;go_simp;try with_reducible rfl
        refine wpAny_done (by kernel_rfl) ?_ _
        go_wp2_with fail
        refine bodyPost_ret (v:=.tuple #[.int .u8 (T.form:Int),.agg #[.int .u8 x.tag,.int .u32 x.to],.int .u8 0]) (by simp [results,Tryz.results10,go_sem,p0,p1,X6,X6n,r0,r1]) rfl ?_
        exact .inr (.inr ⟨HNN.out,T,M1,ids,HGF.out,.inr ⟨HSA.out,0,M',ids',F',HPT.out,.inl ⟨rfl,x,HXE.out,rfl⟩,(HU6.out.trans' (hk9.upd F)).fresh (updX2 W9 w.heap.size 0 1 _ _) (Nat.le_refl _),(HS6.out.keeps hk9).keep (updX2 W9 w.heap.size 0 1 _ _) (fun k hk e=>by have e2:k=w.heap.size:=e;subst e2;rcases HF6c.out _ hk with hh | hh;exact nB hh;omega),HF6.out⟩⟩)
       ·go_simp
        refine hK _ _ ?_
        clear hK K
        refine wpAny_ready (rs:=[4]) (by kernel_rfl) (by decide) (AllReady.cons rfl (fun K hK=>?_) AllReady.nil)
        go_simp
        refine hK _ _ ?_
        clear hK K
        refine wpAny_take (i:=6) (v:=?_) rfl (by kernel_rfl) (by kernel_rfl) (by kernel_rfl) (fun _ _ _ h=>h) (Or.inl ⟨by rfl,?_⟩) ?_
        rotate_left
        ·intro w;go_simp;try with_reducible rfl
        refine wpAny_ready (rs:=[7]) (by kernel_rfl) (by decide) (AllReady.cons rfl (fun K hK=>?_) AllReady.nil)
        go_simp
        refine hK _ _ ?_
        clear hK K
        refine wpAny_take (i:=8) (v:=?_) rfl (by kernel_rfl) (by kernel_rfl) (by kernel_rfl) (fun _ _ _ h=>h) (Or.inl ⟨by rfl,?_⟩) ?_
        rotate_left
        ·intro w;go_simp;try with_reducible rfl
        refine wpAny_done (by kernel_rfl) ?_ _
        go_wp2_with fail
        refine bodyPost_ret (v:=.tuple #[.int .u8 (T.form:Int),.agg #[.int .u8 x.tag,.int .u32 x.to],.int .u8 0]) (by simp [results,Tryz.results10,go_sem,p0,p1,X6,X6n,r0,r1]) rfl ?_
        exact .inr (.inr ⟨HNN.out,T,M1,ids,HGF.out,.inr ⟨HSA.out,0,M',ids',F',HPT.out,.inl ⟨rfl,x,HXE.out,rfl⟩,(HU6.out.trans' (hk9.upd F)).fresh (updX2 W9 w.heap.size 0 1 _ _) (Nat.le_refl _),(HS6.out.keeps hk9).keep (updX2 W9 w.heap.size 0 1 _ _) (fun k hk e=>by have e2:k=w.heap.size:=e;subst e2;rcases HF6c.out _ hk with hh | hh;exact nB hh;omega),HF6.out⟩⟩)
      ·have gne:(er != 0)=true:=by simp [he0]
       go_wp2_with fail
       refine bodyPost_ret (v:=.tuple #[.int .u8 0,.agg #[.int .u8 (⟨0,0⟩:Edge).tag,.int .u32 (⟨0,0⟩:Edge).to],.int .u8 er]) (by simp [results,Tryz.results10,go_sem,p0,p1,X6,X6n]) rfl ?_
       exact .inr (.inr ⟨HNN.out,T,M1,ids,HGF.out,.inr ⟨HSA.out,er,M',ids',F',HPT.out,.inr ⟨he0,rfl⟩,(HU6.out.fresh (updX2 w6 w.heap.size 0 1 _ _) (Nat.le_refl _)).trans' (((Keeps.refl _).alloc _).upd F),(HS6.out.keep (updX2 w6 w.heap.size 0 1 _ _) (fun k hk e=>by have e2:k=w.heap.size:=e;subst e2;rcases HF6c.out _ hk with hh | hh;exact nB hh;omega)).keeps ((Keeps.refl _).alloc _),HF6.out⟩⟩)
    ·rw [decide_eq_false hsame] at HEQ
     have HSA:=Lib.hid hsame
     clear hsame
     go_wp2_with fail
     go_cut [47] (fun s47 wx=>s47=.bool true ∧ Keeps w2 wx)
     case first=>
      go_region_held3 (fun w'=>w'.cell? ⟨tb,0,none⟩=some (.int .i64 (V:Int)) ∧ w'.cell? ⟨tb,2,none⟩=some (.slice pa V pcap)) (go_keep) ((first
       | (go_at_call 38;refine (HOV.out _ (HK2.out.trans (by (exact kp)))).mono ?_;rintro e' w8 ⟨rfl,rfl⟩)
       | (go_at_call 40;refine (HOP.out _ (HK2.out.trans (by (exact kp)))).mono ?_;rintro e' w9 ⟨a9,cap9,rfl,hrow9,hk9⟩;have hi9:=hrow9.ints;have z0:=hk9.cell (a:=⟨tb,0,none⟩) (v:=.int .i64 (V:Int)) (by go_keep);have z2:=hk9.cell (a:=⟨tb,2,none⟩) (v:=.slice pa V pcap) (by go_keep))
       | (go_at_call 39;refine (HEQ.out _ (by (exact kp)) _ _ hi9).mono ?_;rintro e' w10 ⟨rfl,hk10⟩;have z0:=hk10.cell (a:=⟨tb,0,none⟩) (v:=.int .i64 (V:Int)) (by go_keep);have z2:=hk10.cell (a:=⟨tb,2,none⟩) (v:=.slice pa V pcap) (by go_keep))
       | fail))
      all_goals (try go_wp2_with fail)
      all_goals go_meet
      all_goals exact ⟨rfl,by (exact kp)⟩
     case rest=>
      obtain ⟨rfl,hkx⟩:=hcut
      have p0:=hkx.cell y0
      have p1:=hkx.cell y1
      have pf:=fun o:Nat=>hkx.frz (a:=⟨w.heap.size,o,none⟩) (by show w.heap.size < _;omega) (yf o)
      go_wp2
      refine bodyPost_ret (v:=.tuple #[.int .u8 0,.agg #[.int .u8 (⟨0,0⟩:Edge).tag,.int .u32 (⟨0,0⟩:Edge).to],.int .u8 8]) (by simp [results,Tryz.results10,go_sem,p0,p1]) rfl ?_
      exact .inr (.inr ⟨HNN.out,T,M1,ids,HGF.out,.inl ⟨HSA.out,rfl,by (exact kp)⟩⟩)
   ·have hne:Hid (T.perm ≠ ps):=Lib.hid (fun e=>hvn (by rw [HV.out,HN.out,← e,HPE.out]))
    have gne:((V:Int) != (N:Int))=true:=by simp;omega
    go_wp2_with fail
    have hkd:Keeps w w2:=HK02.out
    have c0k:=KWorld.cell c0
    have c2k:=KWorld.cell c2
    refine wp_region_keeps (w2) (by kernel_rfl) (by kernel_rfl) (by (exact kp)) ?_;(repeat (go_big_quiet_step ((first | (go_at_call 38;with_reducible refine Calls.sameK (HOV.out _ (hkd.trans (KWorld.keep _))))))));refine wpQuiet_nil ?_;rintro wq ⟨⟨_,hkq⟩,rfl⟩;try dsimp only
    have p0:=hkq.cell y0
    have p1:=hkq.cell y1
    have pf:=fun o:Nat=>hkq.frz (a:=⟨w.heap.size,o,none⟩) (by show w.heap.size < _;omega) (yf o)
    go_wp2
    refine bodyPost_ret (v:=.tuple #[.int .u8 0,.agg #[.int .u8 (⟨0,0⟩:Edge).tag,.int .u32 (⟨0,0⟩:Edge).to],.int .u8 8]) (by simp [results,Tryz.results10,go_sem,p0,p1]) rfl ?_
    exact .inr (.inr ⟨HNN.out,T,M1,ids,HGF.out,.inl ⟨hne.out,rfl,by (exact kp)⟩⟩)
  ·clear hk02
   go_wp2_with fail
   refine bodyPost_ret (v:=.tuple #[.int .u8 0,.agg #[.int .u8 (⟨0,0⟩:Edge).tag,.int .u32 (⟨0,0⟩:Edge).to],.int .u8 7]) (by simp [results,Tryz.results10,go_sem,y0,y1]) rfl ?_
   exact .inr (.inl ⟨HNN.out,hno,rfl,by (exact kp)⟩)
 ·rw [if_neg hn] at HF
  have HNN:Hid (M.n ≠ (ps.length:Int)):=Lib.hid (by rw [← HN.out];exact hn)
  clear hn HGD HOV HOP
  go_enter Tryz.func10,Tryz.ntmps10
  go_wp2_with (first | (go_at_call 36;refine (HF.out _ (by (exact kp))).mono ?_;rintro e' w1 ⟨rfl,hk⟩;have y0:w1.cell? ⟨w.heap.size,0,none⟩=some (.int .u8 0):=hk.cell (by simp);have y1:w1.cell? ⟨w.heap.size,1,none⟩=some (.int .u32 0):=hk.cell (by simp);have yf:=fun o:Nat=>hk.frz (a:=⟨w.heap.size,o,none⟩) (by show w.heap.size < _;simp) (by simp [go_sem])) | fail)
  refine bodyPost_ret (v:=.tuple #[.int .u8 0,.agg #[.int .u8 (⟨0,0⟩:Edge).tag,.int .u32 (⟨0,0⟩:Edge).to],.int .u8 1]) (by simp [results,Tryz.results10,go_sem,y0,y1]) rfl ?_
  exact .inl ⟨HNN.out,rfl,by (exact kp)⟩

end Go.Proofs.YtfpjogpjocedaaaGreat
