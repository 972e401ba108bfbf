/-
  save.good: the text of good bytes, or that there is none.
-/
import Derived.Test.YtfpjogpjocedaaaGreatPTextW
import Derived.Test.YtfpjogpjocedaaaGreatPTextX
namespace Go.Proofs.YtfpjogpjocedaaaGreat
set_option linter.unusedSimpArgs false
set_option linter.unusedVariables false
set_option maxHeartbeats 600000
open Go Go.RowKit

theorem TxtRep.keeps {base:Nat} {w w':World} {tb:Nat} {n f:Int} {perm:List Int} {k:Int} {l:List Rec} {e:Edge} (h:TxtRep base w tb n f perm k l e) (hk:Keeps w w'):TxtRep base w' tb n f perm k l e:=
 h.upd (hk.upd (fun _=>False)) (fun _ _ _ _ _ _ _ h=>h)

theorem TxtRep.perm {base:Nat} {w:World} {tb:Nat} {n f:Int} {perm:List Int} {k:Int} {l:List Rec} {e:Edge} (h:TxtRep base w tb n f perm k l e):∃ pa pcap,w.cell? ⟨tb,2,none⟩=some (.slice pa perm.length pcap) ∧ IntsAt w pa perm:=by
 obtain ⟨⟨pv,lv,h1,h2,h3⟩,h4⟩:=h
 obtain ⟨pa,pcap,rfl,hp⟩:=owns_slice h2
 refine ⟨pa,pcap,by rw [cell_of_row w tb 2 _ _ _ h1];rfl,fun i x hx=>?_⟩
 have hi:=(List.getElem?_eq_some_iff.1 hx).1
 obtain ⟨g,rfl⟩:=hp (by omega)
 refine ⟨g,0,rfl,?_⟩
 have hc:=World.ownsRow.cellAt h2 (j:=i) (by omega)
 rw [Nat.zero_add,hc,List.getElem?_map,hx]
 rfl

theorem TxtRep.rows {base:Nat} {w:World} {tb:Nat} {n f:Int} {perm:List Int} {k:Int} {l:List Rec} {e:Edge} (h:TxtRep base w tb n f perm k l e):∃ la lcap,w.cell? ⟨tb,4,none⟩=some (.slice la l.length lcap):=by
 obtain ⟨⟨pv,lv,h1,h2,h3⟩,h4⟩:=h
 obtain ⟨la,lcap,rfl,hp⟩:=owns_slice h3
 exact ⟨la,lcap,by rw [cell_of_row w tb 4 _ _ _ h1];rfl⟩

theorem putL_ids:∀ (l:List Rec) (M:St) (ids:List Int),M.wf → (∀ x ∈ ids,look M.cs x ≠ none) → (putL l M ids).1=0 → ∀ x ∈ (putL l M ids).2.2,look (putL l M ids).2.1.cs x ≠ none:=by
 intro l
 induction l with
 | nil=>intro M ids _ h _;exact h
 | cons x l ih=>
  intro M ids hM hi h0
  unfold putL at h0 ⊢
  by_cases he:M.findErr (atRec ids x)=0
  ·rw [if_pos he] at h0 ⊢
   refine ih _ _ (hM.find _) (fun y hy=>?_) h0
   rcases List.mem_append.1 hy with hy | hy
   ·cases hl:look M.cs y with
    | none=>exact absurd hl (hi y hy)
    | some r=>rw [(findSt_ext hM _).sub y r hl];simp
   ·rw [List.mem_singleton] at hy
    rw [hy,find_zero2 hM he]
    simp
  ·rw [if_neg he] at h0
   exact absurd h0 he

theorem good_only {bs:List Int} {T T':Txt} {er:Int} {M1 M1':St} {ids ids':List Int} (h:readB bs=some T) (hp:putL T.l (St.new (T.vars:Int) (T.l.length:Int)) []=(er,M1,ids)) (hg:GoodB bs T' M1' ids'):er=0 ∧ permB T.perm=true ∧ kRight M1 (T.form:Int) (atR ids T.e) 0=true ∧ saveB M1 T.perm (T.form:Int) (atR ids T.e)=bs:=by
 have e1:=hg.read
 rw [h] at e1
 cases e1
 have e2:=hg.put
 rw [hp] at e2
 cases e2
 exact ⟨rfl,hg.perm,hg.right,hg.bytes⟩

theorem isBs_app {a b:List Int} (h1:IsBs a) (h2:IsBs b):IsBs (a ++ b):=fun x hx=>(List.mem_append.1 hx).elim (h1 x) (h2 x)

theorem isBs_flat {α:Type} (g:α → List Int) (hg:∀ x,IsBs (g x)) (l:List α):IsBs (l.flatMap g):=fun x hx=>by
 obtain ⟨y,_,hy⟩:=List.mem_flatMap.1 hx
 exact hg y x hy

theorem isBs_put (n:Nat):IsBs (putB n):=fun x hx=>putB_range (n + 1) n (by omega) x hx

theorem isBs_nil:IsBs []:=fun x hx=>by cases hx

theorem edgeB_bs (f:Int) (S:List Int) (e:Edge):IsBs (edgeB f S e):=by
 unfold edgeB
 refine isBs_app (isBs_put _) ?_
 split
 ·exact isBs_put _
 ·exact isBs_nil

theorem saveB_bs (M:St) (ps:List Int) (f:Int) (e:Edge):IsBs (saveB M ps f e):=by
 unfold saveB recsB
 refine isBs_app (isBs_app (isBs_app (isBs_app (isBs_app (isBs_put _) (isBs_put _)) (isBs_flat _ (fun x=>isBs_put _) _)) (isBs_put _)) (isBs_flat _ (fun x=>?_) _)) (edgeB_bs _ _ _)
 unfold recB
 refine isBs_app (isBs_app (isBs_app (isBs_put _) ?_) (edgeB_bs _ _ _)) (edgeB_bs _ _ _)
 split
 ·exact isBs_put _
 ·exact isBs_nil

theorem numM_few {M:St} (h:M.wf) (hf:FitA M) (hc:M.cs.length ≤ 1048576) (id:Int):(numM M id []).length ≤ 1048576:=by
 have hS:NumOk M (numM M id []):=(NumOk.nil M).next h hf id
 refine Nat.le_trans (ids_few M.cs.length _ hS.once (fun x hx=>?_)) hc
 cases hk:look M.cs x with
 | none=>exact absurd hk (hS.known x hx)
 | some r=>obtain ⟨a,c,_⟩:=look_some hk;exact ⟨a,c⟩

def GoodOut (bs:List Int) (w:World) (e:Ending) (w':World):Prop:=
 Keeps w w' ∧ ((∃ T M1 ids tb,GoodB bs T M1 ids ∧ FitA M1 ∧ (atR ids T.e).ok ∧ (numM M1 (atR ids T.e).to []).length ≤ 1048576 ∧ e=.returned (.tuple #[.pointer (some ⟨tb,0,none⟩),.int .u8 0]) ∧ TxtRep w.heap.size w' tb T.vars T.form T.perm T.l.length T.l T.e) ∨
  ((∀ T M1 ids,¬ GoodB bs T M1 ids) ∧ e=.returned (.tuple #[.pointer none,.int .u8 7])))

set_option maxRecDepth 100000 in
set_option maxHeartbeats 2000000 in
theorem good_calls (a:Option Addr) (cap:Nat) (bs:List Int) (w:World) (h:BsAt w a bs) (hb:IsBs bs) (hl:bs.length ≤ 1048576) (hc:bs.length ≤ cap) :
  Calls Tryz.prog 37 #[.slice a bs.length cap] w (GoodOut bs w):=by
 have HR:=Lib.hid (read_calls a cap bs w h hb (by omega) hc)
 have HBA:=Lib.hid h
 have HIB:=Lib.hid hb
 obtain ⟨K,hK⟩:∃ K,K=bs.length:=⟨_,rfl⟩
 rw [← hK] at HR hl ⊢
 have HK:=Lib.hid hK
 clear h hb hc hK
 by_cases hr:∃ T,readB bs=some T
 ·obtain ⟨T,hT⟩:=hr
  have ht:=readB_ok hT
  have hfm:isFormB (T.form:Int)=true:=by have:=ht.form;unfold isFormB;simp;omega
  have h16:=ht.vars
  have hfew:=ht.few
  have hfo:=ht.form
  rw [← HK.out] at hfew
  have HRD:=Lib.hid hT
  have HTO:=Lib.hid ht
  have HFM:=Lib.hid hfm
  clear hT ht hfm
  go_enter Tryz.func37,Tryz.ntmps37
  go_wp2_with fail
  refine HR.out.mono ?_
  rintro e w1 ⟨tb,ok,rfl,hok,hTx,hk1⟩
  have hok1:ok=true:=hok.2 ⟨T,HRD.out,HFM.out⟩
  subst hok1
  have hT1:=hTx T HRD.out
  have HT1:=Lib.hid hT1
  have HK1:=Lib.hid hk1
  obtain ⟨pa,pcap,c2,hpi⟩:=hT1.perm
  obtain ⟨la,lcap,c4⟩:=hT1.rows
  have c0:=hT1.cells.1
  have c1:=hT1.cells.2.1
  have HO:=Lib.hid (fun (W:World) (hW:Keeps w1 W)=>orderOf_calls pa pcap T.perm W (hpi.keeps hW) (by have:=HTO.out.perm.1;omega))
  have HPI:=Lib.hid hpi
  obtain ⟨PL,hPL⟩:∃ PL,PL=T.perm.length:=⟨_,rfl⟩
  obtain ⟨LL,hLL⟩:∃ LL,LL=T.l.length:=⟨_,rfl⟩
  obtain ⟨V,hV⟩:∃ V,V=T.vars:=⟨_,rfl⟩
  rw [← hPL] at c2 HO
  rw [← hLL] at c4 hfew
  rw [← hV] at c0 h16
  have HPL:=Lib.hid hPL
  have HLL:=Lib.hid hLL
  have HV:=Lib.hid hV
  have tlt:tb < w1.heap.size:=lt_of_cell c0
  clear hok hTx hT1 hk1 hpi hPL hLL hV
  cases hp:permB T.perm with
  | false=>
   rw [hp] at HO
   simp only [Bool.false_eq_true,if_false] at HO
   have HP:=Lib.hid hp
   clear hp
   go_wp2_with (first | (go_at_call 9;refine (HO.out _ (by (exact kp))).mono ?_;rintro e w2 ⟨hk2,rfl⟩) | fail)
   go_ret2
   exact ⟨HK1.out.trans hk2,.inr ⟨fun T' M' ids' hg=>(by have e1:=hg.read;rw [HRD.out] at e1;cases e1;have q:=hg.perm;rw [HP.out] at q;exact absurd q (by simp)),rfl⟩⟩
  | true=>
   rw [hp] at HO
   simp only [if_true] at HO
   have HP:=Lib.hid hp
   clear hp
   go_wp2_with (first | (go_at_call 9;refine (HO.out _ (by (exact kp))).mono ?_;rintro e w2 ⟨hk2,ob,Fo,rfl,-,-⟩;replace c0:=hk2.cell c0;replace c1:=hk2.cell c1;replace c2:=hk2.cell c2;replace c4:=hk2.cell c4) | fail)
   have HNW:=Lib.hid (fun (W:World)=>store_new (V:Int) (LL:Int) W (by omega) (by omega) (by omega) (by omega))
   go_cut [8,9] (fun s8 s9 wx=>∃ sb F,s8=.pointer (some ⟨sb,0,none⟩) ∧ s9=.int .u8 0 ∧ Keeps w2 wx ∧ (∀ k,F k → w2.heap.size ≤ k) ∧ StoreRep F wx sb (St.new (V:Int) (LL:Int)))
   case first=>
      refine wp_region_any (by kernel_rfl) ?_
      obtain ⟨W9,hW9⟩:∃ W9,W9=w2.drew:=⟨_,rfl⟩
      have hkd:Keeps w2 W9:=by rw [hW9];exact (Keeps.refl w2).drew
      replace c0:=hkd.cell c0
      replace c4:=hkd.cell c4
      show wpAny Tryz.prog .any _ _ _ _ _ w2.drew
      rw [← hW9]
      clear hW9
      refine wpAny_take (i:=0) (v:=?_) rfl (by kernel_rfl) (by kernel_rfl) (by kernel_rfl) (fun _ _ _ h=>h) (Or.inl ⟨by rfl,?_⟩) ?_
      rotate_left
      ·intro w;go_simp;try with_reducible rfl
      refine wpAny_take (i:=1) (v:=?_) rfl (by kernel_rfl) (by kernel_rfl) (by kernel_rfl) (fun _ _ _ h=>h) (Or.inl ⟨by rfl,?_⟩) ?_
      rotate_left
      ·intro w;go_simp;try with_reducible rfl
      refine wpAny_take (i:=2) (v:=?_) rfl (by kernel_rfl) (by kernel_rfl) (by kernel_rfl) (fun _ _ _ h=>h) (Or.inl ⟨by rfl,?_⟩) ?_
      rotate_left
      ·intro w;go_simp;try with_reducible rfl
      refine wpAny_take (i:=3) (v:=?_) rfl (by kernel_rfl) (by kernel_rfl) (by kernel_rfl) (fun _ _ _ h=>h) (Or.inl ⟨by rfl,?_⟩) ?_
      rotate_left
      ·intro w;go_simp;try with_reducible rfl
      refine wpAny_take (i:=5) (v:=?_) rfl (by kernel_rfl) (by kernel_rfl) (by kernel_rfl) (fun _ _ _ h=>h) (Or.inl ⟨by rfl,?_⟩) ?_
      rotate_left
      ·intro w;go_simp;try with_reducible rfl
      refine wpAny_take (i:=6) (v:=?_) rfl (by kernel_rfl) (by kernel_rfl) (by kernel_rfl) (fun _ _ _ h=>h) (Or.inl ⟨by rfl,?_⟩) ?_
      rotate_left
      ·intro w;go_simp;try with_reducible rfl
      refine wpAny_take (i:=7) (v:=?_) rfl (by kernel_rfl) (by kernel_rfl) (by kernel_rfl) (fun _ _ _ h=>h) (Or.inl ⟨by rfl,?_⟩) ?_
      rotate_left
      ·intro w;go_simp;try with_reducible rfl
      refine wpAny_ready (rs:=[4,8]) (by kernel_rfl) (by decide) (AllReady.cons rfl (fun K hK=>?_) (AllReady.cons rfl (fun K hK=>?_) AllReady.nil))
      ·go_simp
       refine hK _ _ ?_
       clear hK K
       refine wpAny_ready (rs:=[8]) (by kernel_rfl) (by decide) (AllReady.cons rfl (fun K hK=>?_) AllReady.nil)
       go_simp
       refine hK _ _ ?_
       clear hK K
       refine wpAny_take (i:=9) (v:=?_) rfl (by kernel_rfl) (by kernel_rfl) (by kernel_rfl) (fun _ _ _ h=>h) (Or.inl ⟨by rfl,?_⟩) ?_
       rotate_left
       ·intro w;go_simp;try with_reducible rfl
       refine wpAny_ready (rs:=[10]) (by kernel_rfl) (by decide) (AllReady.cons rfl (fun K hK=>?_) AllReady.nil)
       go_simp
       refine (HNW.out _).mono ?_
       rintro e w5 ⟨sb,F,rfl,hk5,hF5,hS5⟩
       refine hK _ _ ?_
       clear hK K
       refine wpAny_take (i:=11) (v:=?_) rfl (by kernel_rfl) (by kernel_rfl) (by kernel_rfl) (fun _ _ _ h=>h) (Or.inl ⟨by rfl,?_⟩) ?_
       rotate_left
       ·intro w;go_simp;try with_reducible rfl
       refine wpAny_take (i:=12) (v:=?_) rfl (by kernel_rfl) (by kernel_rfl) (by kernel_rfl) (fun _ _ _ h=>h) (Or.inl ⟨by rfl,?_⟩) ?_
       rotate_left
       ·intro w;go_simp;try with_reducible rfl
       refine wpAny_take (i:=13) (v:=?_) rfl (by kernel_rfl) (by kernel_rfl) (by kernel_rfl) (fun _ _ _ h=>h) (Or.inl ⟨by rfl,?_⟩) ?_
       rotate_left
       ·intro w;go_simp;try with_reducible rfl
       refine wpAny_take (i:=14) (v:=?_) rfl (by kernel_rfl) (by kernel_rfl) (by kernel_rfl) (fun _ _ _ h=>h) (Or.inl ⟨by rfl,?_⟩) ?_
       rotate_left
       ·intro w;go_simp;try with_reducible rfl
       refine wpAny_take (i:=15) (v:=?_) rfl (by kernel_rfl) (by kernel_rfl) (by kernel_rfl) (fun _ _ _ h=>h) (Or.inl ⟨by rfl,?_⟩) ?_
       rotate_left
       ·intro w;go_simp;try with_reducible rfl
       refine wpAny_done (by kernel_rfl) ?_ _
       go_wp2_with fail
       go_meet
       exact ⟨sb,F,rfl,rfl,hkd.trans hk5,fun k hk=>Nat.le_trans hkd.size (hF5 k hk),hS5⟩
      ·go_simp
       refine hK _ _ ?_
       clear hK K
       refine wpAny_take (i:=9) (v:=?_) rfl (by kernel_rfl) (by kernel_rfl) (by kernel_rfl) (fun _ _ _ h=>h) (Or.inl ⟨by rfl,?_⟩) ?_
       rotate_left
       ·intro w;go_simp;try with_reducible rfl
       refine wpAny_ready (rs:=[4]) (by kernel_rfl) (by decide) (AllReady.cons rfl (fun K hK=>?_) AllReady.nil)
       go_simp
       refine hK _ _ ?_
       clear hK K
       refine wpAny_ready (rs:=[10]) (by kernel_rfl) (by decide) (AllReady.cons rfl (fun K hK=>?_) AllReady.nil)
       go_simp
       refine (HNW.out _).mono ?_
       rintro e w5 ⟨sb,F,rfl,hk5,hF5,hS5⟩
       refine hK _ _ ?_
       clear hK K
       refine wpAny_take (i:=11) (v:=?_) rfl (by kernel_rfl) (by kernel_rfl) (by kernel_rfl) (fun _ _ _ h=>h) (Or.inl ⟨by rfl,?_⟩) ?_
       rotate_left
       ·intro w;go_simp;try with_reducible rfl
       refine wpAny_take (i:=12) (v:=?_) rfl (by kernel_rfl) (by kernel_rfl) (by kernel_rfl) (fun _ _ _ h=>h) (Or.inl ⟨by rfl,?_⟩) ?_
       rotate_left
       ·intro w;go_simp;try with_reducible rfl
       refine wpAny_take (i:=13) (v:=?_) rfl (by kernel_rfl) (by kernel_rfl) (by kernel_rfl) (fun _ _ _ h=>h) (Or.inl ⟨by rfl,?_⟩) ?_
       rotate_left
       ·intro w;go_simp;try with_reducible rfl
       refine wpAny_take (i:=14) (v:=?_) rfl (by kernel_rfl) (by kernel_rfl) (by kernel_rfl) (fun _ _ _ h=>h) (Or.inl ⟨by rfl,?_⟩) ?_
       rotate_left
       ·intro w;go_simp;try with_reducible rfl
       refine wpAny_take (i:=15) (v:=?_) rfl (by kernel_rfl) (by kernel_rfl) (by kernel_rfl) (fun _ _ _ h=>h) (Or.inl ⟨by rfl,?_⟩) ?_
       rotate_left
       ·intro w;go_simp;try with_reducible rfl
       refine wpAny_done (by kernel_rfl) ?_ _
       go_wp2_with fail
       go_meet
       exact ⟨sb,F,rfl,rfl,hkd.trans hk5,fun k hk=>Nat.le_trans hkd.size (hF5 k hk),hS5⟩
   case rest=>
    obtain ⟨sb,F,rfl,rfl,hk5,hF5,hS5⟩:=hcut
    have hT2:=HT1.out.keeps hk2
    have t2lt:tb < w2.heap.size:=by have:=hk2.size;omega
    have hTF:∀ W,Upd F wc W → TxtRep w.heap.size W tb T.vars T.form T.perm T.l.length T.l T.e:=fun W hW=>by
     refine TxtRep.upd (G:=fun j=>w2.heap.size ≤ j) hT2 ((hk5.upd _).later hW (fun j _ hj=>hF5 j hj)) (fun j cs t q hj _ _=>?_)
     have:=lt_of_heap hj
     omega
    have HPUT:=Lib.hid (textPut_calls hS5 hTF (fun hh=>by have:=hF5 _ hh;omega) HTO.out.l HTO.out.e (by omega) (by rw [← HLL.out];omega))
    have HTF:=Lib.hid hTF
    have HK5:=Lib.hid (hk2.trans hk5)
    have HF5:=Lib.hid hF5
    have HK2:=Lib.hid hk2
    replace c0:=hk5.cell c0
    replace c1:=hk5.cell c1
    replace c2:=hk5.cell c2
    replace c4:=hk5.cell c4
    have s5:=hk5.size
    clear hT2 hTF hS5 hk5 hF5
    go_wp2_with fail
    refine HPUT.out.mono ?_
    rintro e w6 ⟨er,M1,ids,F',x,hput,rfl,hx,hu6,hS6,hF6⟩
    have nF:¬ F tb:=fun hh=>by have:=HF5.out _ hh;omega
    replace c0:=hu6.cellAt nF c0
    replace c1:=hu6.cellAt nF c1
    replace c2:=hu6.cellAt nF c2
    replace c4:=hu6.cellAt nF c4
    have hT6:=HTF.out w6 hu6
    have hk6:Keeps w1 w6:=HK5.out.new hu6 (fun k hk=>by have:=HF5.out k hk;have:=HK2.out.size;omega)
    have HT6:=Lib.hid hT6
    have HK6:=Lib.hid (HK1.out.trans hk6)
    have HPI6:=Lib.hid (HPI.out.keeps hk6)
    have hput2:putL T.l (St.new (T.vars:Int) (T.l.length:Int)) []=(er,M1,ids):=by rw [← HV.out,← HLL.out];exact hput
    have HPUT2:=Lib.hid hput2
    have HS6:=Lib.hid hS6
    have HX:=Lib.hid hx
    clear hput hput2 hu6 hS6 hF6 hT6 hk6 hx
    by_cases he0:er=0
    ·subst he0
     have hxe:x=atR ids T.e:=by have q:=HX.out;rw [if_pos rfl] at q;exact q
     have hM0:(St.new (T.vars:Int) (T.l.length:Int)).wf:=St.new_wf (by omega) (by have:=HTO.out.vars;omega) (by omega) (by have:=HLL.out;omega)
     have hids:∀ y ∈ ids,2 ≤ y ∧ y ≤ 4294967295:=fun y hy=>by
      have q:=putL_ids T.l _ [] hM0 (fun y hy=>by cases hy) (by rw [HPUT2.out]) y (by rw [HPUT2.out];exact hy)
      rw [HPUT2.out] at q
      exact id_range HS6.out.wf (by have:=HS6.out.few;omega) q
     have hxo:x.ok:=by
      have ht:=HTO.out.e.tag
      have ha:=HTO.out.e.at'
      rw [hxe]
      unfold atR
      split
      ·refine ⟨⟨ht.1,by show T.e.tag ≤ 255;omega⟩,?_⟩
       show 0 ≤ (ids[(T.e.to - 2).toNat]?).getD 0 ∧ (ids[(T.e.to - 2).toNat]?).getD 0 ≤ 4294967295
       cases hg:ids[(T.e.to - 2).toNat]? with
       | none=>exact ⟨by decide,by decide⟩
       | some y=>have:=hids y (List.mem_of_getElem? hg);exact ⟨by show 0 ≤ y;omega,this.2⟩
      ·exact ⟨⟨ht.1,by omega⟩,ha.1,by have:=HLL.out;omega⟩
     have HRT:=Lib.hid (fun (W:World) (hW:Keeps w6 W)=>canon_right (HS6.out.keeps hW) (T.form:Int) x 0 hxo)
     have HXO:=Lib.hid hxo
     have HXE:=Lib.hid hxe
     clear hids hM0 hxo hxe
     go_wp2_with fail
     obtain ⟨W7,hW7⟩:∃ W,W=w6.alloc (.cells #[.int .u8 x.tag,.int .u32 x.to] 37):=⟨_,rfl⟩
     have hk7:Keeps w6 W7:=by rw [hW7];exact (Keeps.refl w6).alloc _
     have b0:W7.cell? ⟨w6.heap.size,0,none⟩=some (.int .u8 x.tag):=by rw [hW7];simp
     have b1:W7.cell? ⟨w6.heap.size,1,none⟩=some (.int .u32 x.to):=by rw [hW7];simp
     replace c1:=hk7.cell c1
     replace c2:=hk7.cell c2
     have X7:w6.heap.size < W7.heap.size:=by rw [hW7];simp
     have tl7:tb < W7.heap.size:=lt_of_cell c1
     rw [← hW7]
     clear hW7
     cases hg:kRight M1 (T.form:Int) x 0 with
     | false=>
      rw [hg] at HRT
      have HG:=Lib.hid hg
      clear hg
      have c1k:=KWorld.cell c1
      have c2k:=KWorld.cell c2
      have b0k:=KWorld.cell b0
      have b1k:=KWorld.cell b1
      refine wp_region_keeps (W7) (by kernel_rfl) (by kernel_rfl) (by (exact kp)) ?_;(repeat (go_big_quiet_step ((first | (go_at_call 62;with_reducible refine Calls.keepsK (HRT.out _ (hk7.trans (KWorld.keep _))))))));refine wpQuiet_nil ?_;rintro wq ⟨⟨_,hkq⟩,rfl⟩;try dsimp only
      go_wp2
      go_ret2
      exact ⟨HK6.out.trans (by (exact kp)),.inr ⟨fun T' M' ids' hg=>(by have q:=(good_only HRD.out HPUT2.out hg).2.2.1;rw [← HXE.out,HG.out] at q;exact absurd q (by simp)),rfl⟩⟩
     | true=>
      rw [hg] at HRT
      have HG:=Lib.hid hg
      have hin:x.to < 2 ∨ look M1.cs x.to ≠ none:=by
       rcases (leads_iff.1 (kRight_lead hg)).2 with h2 | ⟨r,q,_⟩
       ·exact .inl h2
       ·exact .inr (by rw [q];simp)
      have hpr:=HTO.out.perm
      have HWR:=Lib.hid (fun (W:World) (hW:Keeps w6 W)=>written_calls (HS6.out.keeps hW) pa pcap T.perm (HPI6.out.keeps hW) hpr.2 (by have q1:=HTO.out.vars;have q2:=hpr.1;omega) (T.form:Int) ⟨by omega,by omega⟩ x HXO.out hin)
      rw [← HPL.out] at HWR
      have HEQ:=Lib.hid (fun (W:World) (hW:Keeps w W) (a3:Option Addr) (cap3:Nat) (h3:BsAt W a3 (saveB M1 T.perm (T.form:Int) x))=>bytesEqual_calls a3 a cap3 cap (saveB M1 T.perm (T.form:Int) x) bs W h3 (HBA.out.keeps hW) (saveB_bs M1 T.perm (T.form:Int) x) HIB.out)
      rw [← HK.out] at HEQ
      obtain ⟨SB,hSB⟩:∃ SB,SB=saveB M1 T.perm (T.form:Int) x:=⟨_,rfl⟩
      rw [← hSB] at HWR HEQ
      have HSB:=Lib.hid hSB
      clear hg hin hpr hSB
      obtain ⟨SL,hSL⟩:∃ SL,SL=SB.length:=⟨_,rfl⟩
      by_cases hsame:SB=bs
      ·rw [decide_eq_true hsame,← hSL] at HEQ
       have HSA:=Lib.hid hsame
       have HSL:=Lib.hid hSL
       clear hsame hSL
       go_region_held3 (fun w'=>w'.cell? ⟨tb,1,none⟩=some (.int .u8 (T.form:Int)) ∧ w'.cell? ⟨tb,2,none⟩=some (.slice pa PL pcap) ∧ w'.cell? ⟨w6.heap.size,0,none⟩=some (.int .u8 x.tag) ∧ w'.cell? ⟨w6.heap.size,1,none⟩=some (.int .u32 x.to)) (go_keep) ((first
        | (go_at_call 62;refine (HRT.out _ (by (exact kp))).mono ?_;rintro e' w8 ⟨rfl,hk8⟩;have y0:=hk8.cell (a:=⟨tb,1,none⟩) (v:=.int .u8 (T.form:Int)) (by go_keep);have y1:=hk8.cell (a:=⟨tb,2,none⟩) (v:=.slice pa PL pcap) (by go_keep);have y2:=hk8.cell (a:=⟨w6.heap.size,0,none⟩) (v:=.int .u8 x.tag) (by go_keep);have y3:=hk8.cell (a:=⟨w6.heap.size,1,none⟩) (v:=.int .u32 x.to) (by go_keep))
        | (go_at_call 63;refine (HWR.out _ (by (exact kp))).mono ?_;rintro e' w9 ⟨v9,rfl,hbs9,hk9⟩;obtain ⟨a9,cap9,rfl,hat9⟩:=hbs9.slice;rw [← HSL.out];have z0:=hk9.cell (a:=⟨tb,1,none⟩) (v:=.int .u8 (T.form:Int)) (by go_keep);have z1:=hk9.cell (a:=⟨tb,2,none⟩) (v:=.slice pa PL pcap) (by go_keep);have z2:=hk9.cell (a:=⟨w6.heap.size,0,none⟩) (v:=.int .u8 x.tag) (by go_keep);have z3:=hk9.cell (a:=⟨w6.heap.size,1,none⟩) (v:=.int .u32 x.to) (by go_keep))
        | (go_at_call 83;refine (HEQ.out _ (HK6.out.trans (by (exact kp))) _ _ hat9).mono ?_;rintro e' w10 ⟨rfl,rfl⟩)
        | fail))
       all_goals go_wp2
       all_goals go_ret2
       all_goals exact ⟨HK6.out.trans (by (exact kp)),.inl ⟨T,M1,ids,tb,⟨by rw [← HLL.out];omega,HRD.out,HP.out,HPUT2.out,by rw [← HXE.out];exact HG.out,by rw [← HXE.out,← HSB.out];exact HSA.out⟩,fun id r hl=>HS6.out.fit hl,by rw [← HXE.out];exact HXO.out,numM_few HS6.out.wf (fun id r hl=>HS6.out.fit hl) HS6.out.few _,rfl,HT6.out.keeps (by (exact kp))⟩⟩
      ·rw [decide_eq_false hsame,← hSL] at HEQ
       have HSA:=Lib.hid hsame
       have HSL:=Lib.hid hSL
       clear hsame hSL
       go_region_held3 (fun w'=>w'.cell? ⟨tb,1,none⟩=some (.int .u8 (T.form:Int)) ∧ w'.cell? ⟨tb,2,none⟩=some (.slice pa PL pcap) ∧ w'.cell? ⟨w6.heap.size,0,none⟩=some (.int .u8 x.tag) ∧ w'.cell? ⟨w6.heap.size,1,none⟩=some (.int .u32 x.to)) (go_keep) ((first
        | (go_at_call 62;refine (HRT.out _ (by (exact kp))).mono ?_;rintro e' w8 ⟨rfl,hk8⟩;have y0:=hk8.cell (a:=⟨tb,1,none⟩) (v:=.int .u8 (T.form:Int)) (by go_keep);have y1:=hk8.cell (a:=⟨tb,2,none⟩) (v:=.slice pa PL pcap) (by go_keep);have y2:=hk8.cell (a:=⟨w6.heap.size,0,none⟩) (v:=.int .u8 x.tag) (by go_keep);have y3:=hk8.cell (a:=⟨w6.heap.size,1,none⟩) (v:=.int .u32 x.to) (by go_keep))
        | (go_at_call 63;refine (HWR.out _ (by (exact kp))).mono ?_;rintro e' w9 ⟨v9,rfl,hbs9,hk9⟩;obtain ⟨a9,cap9,rfl,hat9⟩:=hbs9.slice;rw [← HSL.out];have z0:=hk9.cell (a:=⟨tb,1,none⟩) (v:=.int .u8 (T.form:Int)) (by go_keep);have z1:=hk9.cell (a:=⟨tb,2,none⟩) (v:=.slice pa PL pcap) (by go_keep);have z2:=hk9.cell (a:=⟨w6.heap.size,0,none⟩) (v:=.int .u8 x.tag) (by go_keep);have z3:=hk9.cell (a:=⟨w6.heap.size,1,none⟩) (v:=.int .u32 x.to) (by go_keep))
        | (go_at_call 83;refine (HEQ.out _ (HK6.out.trans (by (exact kp))) _ _ hat9).mono ?_;rintro e' w10 ⟨rfl,rfl⟩)
        | fail))
       all_goals go_wp2
       all_goals go_ret2
       all_goals exact ⟨HK6.out.trans (by (exact kp)),.inr ⟨fun T' M' ids' hg=>HSA.out (by have q:=(good_only HRD.out HPUT2.out hg).2.2.2;rw [← HXE.out,← HSB.out] at q;exact q),rfl⟩⟩
    ·have gne:(er != 0)=true:=by simp [he0]
     go_wp2_with fail
     go_quiet (fail)
     go_wp2
     go_ret2
     exact ⟨HK6.out.trans (by (exact kp)),.inr ⟨fun T' M' ids' hg=>he0 (good_only HRD.out HPUT2.out hg).1,rfl⟩⟩
 ·go_enter Tryz.func37,Tryz.ntmps37
  go_wp2_with fail
  refine HR.out.mono ?_
  rintro e w1 ⟨tb,ok,rfl,hok,hTx,hk1⟩
  have hok1:ok=false:=by
   cases ok with
   | false=>rfl
   | true=>obtain ⟨T,hT,_⟩:=hok.1 rfl;exact absurd ⟨T,hT⟩ hr
  subst hok1
  clear hok hTx
  go_wp2_with fail
  go_ret2
  exact ⟨hk1,.inr ⟨fun T' M' ids' hg=>hr ⟨T',hg.read⟩,rfl⟩⟩

end Go.Proofs.YtfpjogpjocedaaaGreat
