/-
  save.Load, save.Peek: what bytes are loaded as, or why they aren't.
-/
import Derived.Test.YtfpjogpjocedaaaGreatPGoodW
namespace Go.Proofs.YtfpjogpjocedaaaGreat
set_option linter.unusedSimpArgs false
set_option linter.unusedVariables false
set_option maxHeartbeats 600000
open Go Go.RowKit

structure GoodF (bs:List Int) (T:Txt) (M1:St) (ids:List Int):Prop where
 good:GoodB bs T M1 ids
 fit:FitA M1
 ok:(atR ids T.e).ok
 few:(numM M1 (atR ids T.e).to []).length ≤ 1048576

def LoadOut (F:Nat → Prop) (w:World) (sb:Nat) (M:St) (ps bs:List Int) (e:Ending) (w':World):Prop:=
 (M.n ≠ (ps.length:Int) ∧ e=.returned (.tuple #[.int .u8 0,.agg #[.int .u8 (⟨0,0⟩:Edge).tag,.int .u32 (⟨0,0⟩:Edge).to],.int .u8 1]) ∧ Keeps w w') ∨
 (M.n=(ps.length:Int) ∧ (∀ T M1 ids,¬ GoodB bs T M1 ids) ∧ e=.returned (.tuple #[.int .u8 0,.agg #[.int .u8 (⟨0,0⟩:Edge).tag,.int .u32 (⟨0,0⟩:Edge).to],.int .u8 7]) ∧ Keeps w w') ∨
 (M.n=(ps.length:Int) ∧ ∃ T M1 ids,GoodF bs T M1 ids ∧ ((T.perm ≠ ps ∧ e=.returned (.tuple #[.int .u8 0,.agg #[.int .u8 (⟨0,0⟩:Edge).tag,.int .u32 (⟨0,0⟩:Edge).to],.int .u8 8]) ∧ Keeps w w') ∨
   (T.perm=ps ∧ ∃ er M' ids' F',putL T.l M []=(er,M',ids') ∧ ((er=0 ∧ ∃ x,x=atR ids' T.e ∧ e=.returned (.tuple #[.int .u8 (T.form:Int),.agg #[.int .u8 x.tag,.int .u32 x.to],.int .u8 0])) ∨ (er ≠ 0 ∧ e=.returned (.tuple #[.int .u8 0,.agg #[.int .u8 (⟨0,0⟩:Edge).tag,.int .u32 (⟨0,0⟩:Edge).to],.int .u8 er]))) ∧ Upd F w w' ∧ StoreRep F' w' sb M' ∧ (∀ j,F' j → F j ∨ w.heap.size ≤ j))))

set_option maxRecDepth 100000 in
set_option maxHeartbeats 2000000 in
theorem load_calls {F Fo:Nat → Prop} {w:World} {sb ob:Nat} {M:St} {ps:List Int} (h:StoreRep F w sb M) (ho:OrdRep Fo w ob ps) (a:Option Addr) (cap:Nat) (bs:List Int) (hba:BsAt w a bs) (hb:IsBs bs) (hl:bs.length ≤ 1048576) (hc:bs.length ≤ cap) :
  Calls Tryz.prog 10 #[.pointer (some ⟨sb,0,none⟩),.pointer (some ⟨ob,0,none⟩),.slice a bs.length cap] w (LoadOut F w sb M ps bs):=by
 have HF:=Lib.hid (fun (W:World) (hW:Keeps w W)=>saveFit_calls (h.keeps hW) (ho.keeps hW))
 have HGD:=Lib.hid (fun (W:World) (hW:Keeps w W)=>good_calls a cap bs W (hba.keeps hW) hb hl hc)
 have HOV:=Lib.hid (fun (W:World) (hW:Keeps w W)=>ordVars_calls (ho.keeps hW))
 have HOP:=Lib.hid (fun (W:World) (hW:Keeps w W)=>ordPerm_calls (ho.keeps hW))
 have HST:=Lib.hid h
 have HFlt:=Lib.hid h.lt
 have hp16:=ho.le
 obtain ⟨K,hK⟩:∃ K,K=bs.length:=⟨_,rfl⟩
 obtain ⟨N,hN⟩:∃ N,N=ps.length:=⟨_,rfl⟩
 rw [← hK] at HGD ⊢
 rw [← hN] at HOV HOP HF hp16
 have HN:=Lib.hid hN
 have olt:ob < w.heap.size:=ho.lt _ ho.own
 have slt:sb < w.heap.size:=h.lt _ h.own
 clear h ho hba hb hl hc hK hN
 by_cases hn:M.n=(N:Int)
 ·rw [if_pos hn] at HF
  have HNN:Hid (M.n=(ps.length:Int)):=Lib.hid (by rw [← HN.out];exact hn)
  clear hn
  go_enter Tryz.func10,Tryz.ntmps10
  go_wp2_with (first | (go_at_call 36;refine (HF.out _ (by (exact kp))).mono ?_;rintro e' w1 ⟨rfl,hk1⟩;have y0:w1.cell? ⟨w.heap.size,0,none⟩=some (.int .u8 0):=hk1.cell (by simp);have y1:w1.cell? ⟨w.heap.size,1,none⟩=some (.int .u32 0):=hk1.cell (by simp);have yf:=fun o:Nat=>hk1.frz (a:=⟨w.heap.size,o,none⟩) (by show w.heap.size < _;simp) (by simp [go_sem]);have s1:=hk1.size;simp only [World.size_alloc] at s1;have hk01:Keeps w w1:=(by (exact kp))) | fail)
  refine (HGD.out _ (by (exact kp))).mono ?_
  rintro e w2 ⟨hk2,hgo⟩
  replace y0:=hk2.cell y0
  replace y1:=hk2.cell y1
  replace yf:=fun o:Nat=>hk2.frz (a:=⟨w.heap.size,o,none⟩) (by show w.heap.size < _;omega) (yf o)
  have s2:=hk2.size
  have hk02:=hk01.trans hk2
  rcases hgo with ⟨T,M1,ids,tb,g1,g2,g3,g4,rfl,hT⟩ | ⟨hno,rfl⟩
  ·have hperm:T.perm.length=T.vars:=(readB_facts g1.read).1
   have HGF:Hid (GoodF bs T M1 ids):=Lib.hid ⟨g1,g2,g3,g4⟩
   have hto:=readB_ok g1.read
   have HTO:=Lib.hid hto
   have h16:=hto.vars
   have hfo:=hto.form
   have HT:=Lib.hid hT
   obtain ⟨pa,pcap,c2,hpi⟩:=hT.perm
   have c0:=hT.cells.1
   have c1:=hT.cells.2.1
   have tlt:tb < w2.heap.size:=lt_of_cell c0
   have htb:=hT.2
   have HPI:=Lib.hid hpi
   have HPE:=Lib.hid hperm
   obtain ⟨PL,hPL⟩:∃ PL,PL=T.perm.length:=⟨_,rfl⟩
   obtain ⟨V,hV⟩:∃ V,V=T.vars:=⟨_,rfl⟩
   rw [← hPL] at c2
   rw [← hV] at c0 h16
   have HPL:=Lib.hid hPL
   have HV:=Lib.hid hV
   have HK02:=Lib.hid hk02
   clear g1 g2 g3 g4 hto hT hpi hPL hV hperm
   by_cases hvn:V=N
   ·obtain rfl:PL=N:=by rw [← hvn,HPL.out,HPE.out,HV.out]
    subst hvn
    have HEQ:=Lib.hid (fun (W:World) (hW:Keeps w2 W) (a3:Option Addr) (cap3:Nat) (h3:IntsAt W a3 ps)=>intsEqual_calls pa a3 pcap cap3 T.perm ps W (HPI.out.keeps hW) h3 (by rw [← HPL.out];omega) (by rw [← HN.out];omega))
    rw [← HPL.out,← HN.out] at HEQ
    have HK2:=Lib.hid hk02
    by_cases hsame:T.perm=ps
    ·rw [decide_eq_true hsame] at HEQ
     have HSA:=Lib.hid hsame
     clear hsame
     go_wp2_with fail
     go_cut [47] (fun s47 wx=>s47=.bool false ∧ Keeps w2 wx)
     case first=>
      go_region_held3 (fun w'=>w'.cell? ⟨tb,0,none⟩=some (.int .i64 (V:Int)) ∧ w'.cell? ⟨tb,2,none⟩=some (.slice pa V pcap)) (go_keep) ((first
       | (go_at_call 38;refine (HOV.out _ (HK2.out.trans (by (exact kp)))).mono ?_;rintro e' w8 ⟨rfl,rfl⟩)
       | (go_at_call 40;refine (HOP.out _ (HK2.out.trans (by (exact kp)))).mono ?_;rintro e' w9 ⟨a9,cap9,rfl,hrow9,hk9⟩;have hi9:=hrow9.ints;have z0:=hk9.cell (a:=⟨tb,0,none⟩) (v:=.int .i64 (V:Int)) (by go_keep);have z2:=hk9.cell (a:=⟨tb,2,none⟩) (v:=.slice pa V pcap) (by go_keep))
       | (go_at_call 39;refine (HEQ.out _ (by (exact kp)) _ _ hi9).mono ?_;rintro e' w10 ⟨rfl,hk10⟩;have z0:=hk10.cell (a:=⟨tb,0,none⟩) (v:=.int .i64 (V:Int)) (by go_keep);have z2:=hk10.cell (a:=⟨tb,2,none⟩) (v:=.slice pa V pcap) (by go_keep))
       | fail))
      all_goals (try go_wp2_with fail)
      all_goals go_meet
      all_goals exact ⟨rfl,by (exact kp)⟩
     case rest=>
      obtain ⟨rfl,hkx⟩:=hcut
      have p0:=hkx.cell y0
      have p1:=hkx.cell y1
      have pf:=fun o:Nat=>hkx.frz (a:=⟨w.heap.size,o,none⟩) (by show w.heap.size < _;omega) (yf o)
      have d1:=hkx.cell c1
      have sx:=hkx.size
      have nlt:∀ k,F k → k < w1.heap.size:=fun k hk=>by have:=HFlt.out k hk;omega
      have hTF:∀ W,Upd F wc W → TxtRep w1.heap.size W tb T.vars T.form T.perm T.l.length T.l T.e:=fun W hW=>by
       refine TxtRep.upd (G:=F) (HT.out.keeps hkx) hW (fun j cs t q hj _ hbj hF=>?_)
       have:=nlt j hF
       omega
      have nF:¬ F tb:=fun hF=>by have:=nlt tb hF;omega
      have nB:¬ F w.heap.size:=fun hF=>by have:=HFlt.out _ hF;omega
      have HPUT:=Lib.hid (textPut_calls (HST.out.keeps (HK2.out.trans hkx)) hTF nF HTO.out.l HTO.out.e (by omega) (by have q1:=HTO.out.few;have q2:=HGF.out.good.few;omega))
      have HKX:=Lib.hid (HK2.out.trans hkx)
      clear hTF hkx nlt
      go_wp2_with fail
      refine HPUT.out.mono ?_
      rintro e w6 ⟨er,M',ids',F',x,hput,rfl,hx,hu6,hS6,hF6⟩
      replace p0:=hu6.cellAt nB p0
      replace p1:=hu6.cellAt nB p1
      replace pf:=fun o:Nat=>hu6.frzAt (by omega) nB (pf o)
      replace d1:=hu6.cellAt nF d1
      have s6:=hu6.size
      have X6:w.heap.size < w6.heap.size:=by omega
      have X6n:w.heap.size ≠ w6.heap.size:=by omega
      have t6:tb < w6.heap.size:=by omega
      have t6n:tb ≠ w6.heap.size:=by omega
      have HU6:=Lib.hid ((HKX.out.upd F).trans' hu6)
      have HS6:=Lib.hid hS6
      have HF6c:=Lib.hid hF6
      have HF6:Hid (∀ j,F' j → F j ∨ w.heap.size ≤ j):=Lib.hid (fun j hj=>(hF6 j hj).imp (fun h=>h) (fun h=>by omega))
      have HPT:=Lib.hid hput
      have HX:=Lib.hid hx
      clear hput hx hu6 hS6 hF6
      by_cases he0:er=0
      ·subst he0
       have hxe:x=atR ids' T.e:=by have q:=HX.out;rw [if_pos rfl] at q;exact q
       have HXE:=Lib.hid hxe
       clear hxe
       go_wp2_with fail
       obtain ⟨W7,hW7⟩:∃ W,W=w6.alloc (.cells #[.int .u8 x.tag,.int .u32 x.to] 37):=⟨_,rfl⟩
       have hk7:Keeps w6 W7:=by rw [hW7];exact (Keeps.refl w6).alloc _
       have r0:W7.cell? ⟨w6.heap.size,0,none⟩=some (.int .u8 x.tag):=by rw [hW7];simp
       have r1:W7.cell? ⟨w6.heap.size,1,none⟩=some (.int .u32 x.to):=by rw [hW7];simp
       rw [← hW7]
       clear hW7
       refine wp_region_any (by kernel_rfl) ?_
       obtain ⟨W9,hW9⟩:∃ W9,W9=W7.drew:=⟨_,rfl⟩
       have hkd:Keeps W7 W9:=by rw [hW9];exact (Keeps.refl W7).drew
       have hk9:=hk7.trans hkd
       replace p0:=hk9.cell p0
       replace p1:=hk9.cell p1
       replace pf:=fun o:Nat=>hk9.frz (a:=⟨w.heap.size,o,none⟩) (by show w.heap.size < _;omega) (pf o)
       replace d1:=hk9.cell d1
       replace r0:=hkd.cell r0
       replace r1:=hkd.cell r1
       show wpAny Tryz.prog .any _ _ _ _ _ W7.drew
       rw [← hW9]
       clear hW9
       refine wpAny_take (i:=0) (v:=?_) rfl (by kernel_rfl) (by kernel_rfl) (by kernel_rfl) (fun _ _ _ h=>h) (Or.inl ⟨by rfl,?_⟩) ?_
       rotate_left
       ·intro w;go_simp;try with_reducible rfl
       refine wpAny_take (i:=1) (v:=?_) rfl (by kernel_rfl) (by kernel_rfl) (by kernel_rfl) (fun _ _ _ h=>h) (Or.inl ⟨by rfl,?_⟩) ?_
       rotate_left
       ·intro w;go_simp;try with_reducible rfl
       refine wpAny_take (i:=2) (v:=?_) rfl (by kernel_rfl) (by kernel_rfl) (by kernel_rfl) (fun _ _ _ h=>h) (Or.inl ⟨by rfl,?_⟩) ?_
       rotate_left
       ·intro w;go_simp;try with_reducible rfl
       refine wpAny_take (i:=3) (v:=?_) rfl (by kernel_rfl) (by kernel_rfl) (by kernel_rfl) (fun _ _ _ h=>h) (Or.inl ⟨by rfl,?_⟩) ?_
       rotate_left
       ·intro w;go_simp;try with_reducible rfl
       refine wpAny_ready (rs:=[4,5]) (by kernel_rfl) (by decide) (AllReady.cons rfl (fun K hK=>?_) (AllReady.cons rfl (fun K hK=>?_) AllReady.nil))
       ·go_simp
        refine hK _ _ ?_
        clear hK K
        refine wpAny_take (i:=6) (v:=?_) rfl (by kernel_rfl) (by kernel_rfl) (by kernel_rfl) (fun _ _ _ h=>h) (Or.inl ⟨by rfl,?_⟩) ?_
        rotate_left
        ·intro w;go_simp;try with_reducible rfl
        refine wpAny_ready (rs:=[5]) (by kernel_rfl) (by decide) (AllReady.cons rfl (fun K hK=>?_) AllReady.nil)
        go_simp
        refine hK _ _ ?_
        clear hK K
        refine wpAny_ready (rs:=[7]) (by kernel_rfl) (by decide) (AllReady.cons rfl (fun K hK=>?_) AllReady.nil)
        go_simp
        refine hK _ _ ?_
        clear hK K
        refine wpAny_take (i:=8) (v:=?_) rfl (by kernel_rfl) (by kernel_rfl) (by kernel_rfl) (fun _ _ _ h=>h) (Or.inl ⟨by rfl,?_⟩) ?_
        rotate_left
        ·intro w;go_simp;try with_reducible rfl
        refine wpAny_done (by kernel_rfl) ?_ _
        go_wp2_with fail
        refine bodyPost_ret (v:=.tuple #[.int .u8 (T.form:Int),.agg #[.int .u8 x.tag,.int .u32 x.to],.int .u8 0]) (by simp [results,Tryz.results10,go_sem,p0,p1,X6,X6n,r0,r1]) rfl ?_
        exact .inr (.inr ⟨HNN.out,T,M1,ids,HGF.out,.inr ⟨HSA.out,0,M',ids',F',HPT.out,.inl ⟨rfl,x,HXE.out,rfl⟩,(HU6.out.trans' (hk9.upd F)).fresh (updX2 W9 w.heap.size 0 1 _ _) (Nat.le_refl _),(HS6.out.keeps hk9).keep (updX2 W9 w.heap.size 0 1 _ _) (fun k hk e=>by have e2:k=w.heap.size:=e;subst e2;rcases HF6c.out _ hk with hh | hh;exact nB hh;omega),HF6.out⟩⟩)
       ·go_simp
        refine hK _ _ ?_
        clear hK K
        refine wpAny_ready (rs:=[4]) (by kernel_rfl) (by decide) (AllReady.cons rfl (fun K hK=>?_) AllReady.nil)
        go_simp
        refine hK _ _ ?_
        clear hK K
        refine wpAny_take (i:=6) (v:=?_) rfl (by kernel_rfl) (by kernel_rfl) (by kernel_rfl) (fun _ _ _ h=>h) (Or.inl ⟨by rfl,?_⟩) ?_
        rotate_left
        ·intro w;go_simp;try with_reducible rfl
        refine wpAny_ready (rs:=[7]) (by kernel_rfl) (by decide) (AllReady.cons rfl (fun K hK=>?_) AllReady.nil)
        go_simp
        refine hK _ _ ?_
        clear hK K
        refine wpAny_take (i:=8) (v:=?_) rfl (by kernel_rfl) (by kernel_rfl) (by kernel_rfl) (fun _ _ _ h=>h) (Or.inl ⟨by rfl,?_⟩) ?_
        rotate_left
        ·intro w;go_simp;try with_reducible rfl
        refine wpAny_done (by kernel_rfl) ?_ _
        go_wp2_with fail
        refine bodyPost_ret (v:=.tuple #[.int .u8 (T.form:Int),.agg #[.int .u8 x.tag,.int .u32 x.to],.int .u8 0]) (by simp [results,Tryz.results10,go_sem,p0,p1,X6,X6n,r0,r1]) rfl ?_
        exact .inr (.inr ⟨HNN.out,T,M1,ids,HGF.out,.inr ⟨HSA.out,0,M',ids',F',HPT.out,.inl ⟨rfl,x,HXE.out,rfl⟩,(HU6.out.trans' (hk9.upd F)).fresh (updX2 W9 w.heap.size 0 1 _ _) (Nat.le_refl _),(HS6.out.keeps hk9).keep (updX2 W9 w.heap.size 0 1 _ _) (fun k hk e=>by have e2:k=w.heap.size:=e;subst e2;rcases HF6c.out _ hk with hh | hh;exact nB hh;omega),HF6.out⟩⟩)
      ·have gne:(er != 0)=true:=by simp [he0]
       go_wp2_with fail
       refine bodyPost_ret (v:=.tuple #[.int .u8 0,.agg #[.int .u8 (⟨0,0⟩:Edge).tag,.int .u32 (⟨0,0⟩:Edge).to],.int .u8 er]) (by simp [results,Tryz.results10,go_sem,p0,p1,X6,X6n]) rfl ?_
       exact .inr (.inr ⟨HNN.out,T,M1,ids,HGF.out,.inr ⟨HSA.out,er,M',ids',F',HPT.out,.inr ⟨he0,rfl⟩,(HU6.out.fresh (updX2 w6 w.heap.size 0 1 _ _) (Nat.le_refl _)).trans' (((Keeps.refl _).alloc _).upd F),(HS6.out.keep (updX2 w6 w.heap.size 0 1 _ _) (fun k hk e=>by have e2:k=w.heap.size:=e;subst e2;rcases HF6c.out _ hk with hh | hh;exact nB hh;omega)).keeps ((Keeps.refl _).alloc _),HF6.out⟩⟩)
    ·rw [decide_eq_false hsame] at HEQ
     have HSA:=Lib.hid hsame
     clear hsame
     go_wp2_with fail
     go_cut [47] (fun s47 wx=>s47=.bool true ∧ Keeps w2 wx)
     case first=>
      go_region_held3 (fun w'=>w'.cell? ⟨tb,0,none⟩=some (.int .i64 (V:Int)) ∧ w'.cell? ⟨tb,2,none⟩=some (.slice pa V pcap)) (go_keep) ((first
       | (go_at_call 38;refine (HOV.out _ (HK2.out.trans (by (exact kp)))).mono ?_;rintro e' w8 ⟨rfl,rfl⟩)
       | (go_at_call 40;refine (HOP.out _ (HK2.out.trans (by (exact kp)))).mono ?_;rintro e' w9 ⟨a9,cap9,rfl,hrow9,hk9⟩;have hi9:=hrow9.ints;have z0:=hk9.cell (a:=⟨tb,0,none⟩) (v:=.int .i64 (V:Int)) (by go_keep);have z2:=hk9.cell (a:=⟨tb,2,none⟩) (v:=.slice pa V pcap) (by go_keep))
       | (go_at_call 39;refine (HEQ.out _ (by (exact kp)) _ _ hi9).mono ?_;rintro e' w10 ⟨rfl,hk10⟩;have z0:=hk10.cell (a:=⟨tb,0,none⟩) (v:=.int .i64 (V:Int)) (by go_keep);have z2:=hk10.cell (a:=⟨tb,2,none⟩) (v:=.slice pa V pcap) (by go_keep))
       | fail))
      all_goals (try go_wp2_with fail)
      all_goals go_meet
      all_goals exact ⟨rfl,by (exact kp)⟩
     case rest=>
      obtain ⟨rfl,hkx⟩:=hcut
      have p0:=hkx.cell y0
      have p1:=hkx.cell y1
      have pf:=fun o:Nat=>hkx.frz (a:=⟨w.heap.size,o,none⟩) (by show w.heap.size < _;omega) (yf o)
      go_wp2
      refine bodyPost_ret (v:=.tuple #[.int .u8 0,.agg #[.int .u8 (⟨0,0⟩:Edge).tag,.int .u32 (⟨0,0⟩:Edge).to],.int .u8 8]) (by simp [results,Tryz.results10,go_sem,p0,p1]) rfl ?_
      exact .inr (.inr ⟨HNN.out,T,M1,ids,HGF.out,.inl ⟨HSA.out,rfl,by (exact kp)⟩⟩)
   ·have hne:Hid (T.perm ≠ ps):=Lib.hid (fun e=>hvn (by rw [HV.out,HN.out,← e,HPE.out]))
    have gne:((V:Int) != (N:Int))=true:=by simp;omega
    go_wp2_with fail
    have hkd:Keeps w w2:=HK02.out
    have c0k:=KWorld.cell c0
    have c2k:=KWorld.cell c2
    refine wp_region_keeps (w2) (by kernel_rfl) (by kernel_rfl) (by (exact kp)) ?_;(repeat (go_big_quiet_step ((first | (go_at_call 38;with_reducible refine Calls.sameK (HOV.out _ (hkd.trans (KWorld.keep _))))))));refine wpQuiet_nil ?_;rintro wq ⟨⟨_,hkq⟩,rfl⟩;try dsimp only
    have p0:=hkq.cell y0
    have p1:=hkq.cell y1
    have pf:=fun o:Nat=>hkq.frz (a:=⟨w.heap.size,o,none⟩) (by show w.heap.size < _;omega) (yf o)
    go_wp2
    refine bodyPost_ret (v:=.tuple #[.int .u8 0,.agg #[.int .u8 (⟨0,0⟩:Edge).tag,.int .u32 (⟨0,0⟩:Edge).to],.int .u8 8]) (by simp [results,Tryz.results10,go_sem,p0,p1]) rfl ?_
    exact .inr (.inr ⟨HNN.out,T,M1,ids,HGF.out,.inl ⟨hne.out,rfl,by (exact kp)⟩⟩)
  ·clear hk02
   go_wp2_with fail
   refine bodyPost_ret (v:=.tuple #[.int .u8 0,.agg #[.int .u8 (⟨0,0⟩:Edge).tag,.int .u32 (⟨0,0⟩:Edge).to],.int .u8 7]) (by simp [results,Tryz.results10,go_sem,y0,y1]) rfl ?_
   exact .inr (.inl ⟨HNN.out,hno,rfl,by (exact kp)⟩)
 ·rw [if_neg hn] at HF
  have HNN:Hid (M.n ≠ (ps.length:Int)):=Lib.hid (by rw [← HN.out];exact hn)
  clear hn HGD HOV HOP
  go_enter Tryz.func10,Tryz.ntmps10
  go_wp2_with (first | (go_at_call 36;refine (HF.out _ (by (exact kp))).mono ?_;rintro e' w1 ⟨rfl,hk⟩;have y0:w1.cell? ⟨w.heap.size,0,none⟩=some (.int .u8 0):=hk.cell (by simp);have y1:w1.cell? ⟨w.heap.size,1,none⟩=some (.int .u32 0):=hk.cell (by simp);have yf:=fun o:Nat=>hk.frz (a:=⟨w.heap.size,o,none⟩) (by show w.heap.size < _;simp) (by simp [go_sem])) | fail)
  refine bodyPost_ret (v:=.tuple #[.int .u8 0,.agg #[.int .u8 (⟨0,0⟩:Edge).tag,.int .u32 (⟨0,0⟩:Edge).to],.int .u8 1]) (by simp [results,Tryz.results10,go_sem,y0,y1]) rfl ?_
  exact .inl ⟨HNN.out,rfl,by (exact kp)⟩

theorem GoodF.done {bs:List Int} {T:Txt} {M1:St} {ids:List Int} (h:GoodF bs T M1 ids) {M:St} (hM:M.wf) (hn:M.n=(T.vars:Int)) (hr:M.len + (T.l.length:Int) ≤ M.room) {er:Int} {M':St} {ids':List Int} (hp:putL T.l M []=(er,M',ids')) :
  er=0 ∧ M'.wf ∧ Ext M M' ∧ kRight M' (T.form:Int) (atR ids' T.e) 0=true ∧ saveB M' T.perm (T.form:Int) (atR ids' T.e)=bs ∧ M'.len ≤ M.len + (T.l.length:Int):=by
 obtain ⟨w1,w2,w3⟩:=putL_wf T.l M [] hM
 have w4:=(putL_len T.l M []).2
 rcases h.good.load h.fit h.ok h.few hM hn with ⟨a,D,φ,hE,hD,hx⟩ | ⟨a,b⟩
 ·rw [hp] at a hE hx w1 w2 w4
  simp only [] at a hE hx w1 w2 w4
  refine ⟨a,w1,w2,?_,?_,w4⟩
  ·rw [hx]
   exact hE.rightE hD h.good.right
  ·rw [hx,hE.saveE hD]
   exact h.good.bytes
 ·omega

theorem GoodF.edge {bs:List Int} {T:Txt} {M1:St} {ids:List Int} (h:GoodF bs T M1 ids) (hl:bs.length ≤ 1048576) {M:St} (hM:M.wf) {M':St} {ids':List Int} (hp:putL T.l M []=(0,M',ids')) (hw:M'.wf) (hc:M'.cs.length ≤ 1048576):(atR ids' T.e).ok:=by
 have ho:=readB_ok h.good.read
 have ht:=ho.e.tag
 have ha:=ho.e.at'
 have hf:=ho.few
 unfold atR
 split
 ·refine ⟨⟨ht.1,by show T.e.tag ≤ 255;omega⟩,?_⟩
  show 0 ≤ (ids'[(T.e.to - 2).toNat]?).getD 0 ∧ (ids'[(T.e.to - 2).toNat]?).getD 0 ≤ 4294967295
  cases hg:ids'[(T.e.to - 2).toNat]? with
  | none=>exact ⟨by decide,by decide⟩
  | some y=>
   have q:=putL_ids T.l M [] hM (fun y hy=>by cases hy) (by rw [hp]) y (by rw [hp];exact List.mem_of_getElem? hg)
   rw [hp] at q
   have:=id_range hw (by omega) q
   exact ⟨by show 0 ≤ y;omega,this.2⟩
 ·exact ⟨⟨ht.1,by omega⟩,ha.1,by omega⟩

theorem putB_two {n:Nat} (h:n ≤ 255):(putB n).length ≤ 2:=putB_len 1 n (by omega)

theorem edgeB_short {f:Int} {S:List Int} {e:Edge} (he:e.ok) (hS:S.length ≤ 100):(edgeB f S e).length ≤ 4:=by
 have h1:S.idxOf e.to ≤ S.length:=List.idxOf_le_length
 have a1:=putB_two (n:=if e.to < 2 then e.to.toNat else S.idxOf e.to + 2) (by split <;> omega)
 have ht:=he.1
 have a2:=putB_two (n:=e.tag.toNat) (by omega)
 have a3:(if f=5 ∧ 0 < e.to then putB e.tag.toNat else []).length ≤ 2:=by
  split
  ·exact a2
  ·exact Nat.zero_le _
 unfold edgeB
 rw [List.length_append]
 omega

theorem recB_short {f:Int} {S:List Int} {r:Rec} (hr:r.ok) (hS:S.length ≤ 100):(recB f S r).length ≤ 12:=by
 have t:=hr.top
 have b:=hr.bot
 have a1:=putB_two (n:=r.top.toNat) (by omega)
 have a2:=putB_two (n:=r.bot.toNat) (by omega)
 have a3:=edgeB_short (f:=f) hr.lo hS
 have a4:=edgeB_short (f:=f) hr.hi hS
 have a5:(if f=3 ∨ f=4 then putB r.bot.toNat else []).length ≤ 2:=by
  split
  ·exact a2
  ·exact Nat.zero_le _
 unfold recB
 simp only [List.length_append]
 omega

theorem saveB_short {M:St} (hw:M.wf) (hfa:FitA M) {ps:List Int} (hps:∀ x ∈ ps,0 ≤ x ∧ x ≤ 16) (hpl:ps.length ≤ 6) {f:Int} (hf:0 ≤ f ∧ f ≤ 255) {e:Edge} (he:e.ok) {k:Nat} (hk:(numM M e.to []).length ≤ k) (h31:k ≤ 64):(saveB M ps f e).length ≤ 30 + 12 * k:=by
 have n0:=hw.n0
 have n16:=hw.n16
 have a1:=putB_two (n:=M.n.toNat) (by omega)
 have a2:=putB_two (n:=f.toNat) (by omega)
 have a3:=flat_len (fun x:Int=>putB x.toNat) 2 ps (fun x hx=>putB_two (by have:=hps x hx;omega))
 have a4:=putB_two (n:=(numM M e.to []).length) (by omega)
 have a5:=flat_len (fun x:Int=>recB f (numM M e.to []) (grec (look M.cs x))) 12 (numM M e.to []) (fun x hx=>by
  refine recB_short ?_ (by omega)
  cases hl:look M.cs x with
  | none=>exact Rec.zero_ok
  | some r=>exact hfa x r hl)
 have a6:=edgeB_short (f:=f) (S:=numM M e.to []) he (by omega)
 have a7:12 * (numM M e.to []).length ≤ 12 * k:=Nat.mul_le_mul_left _ hk
 have a8:(recsB M f (numM M e.to [])).length ≤ 12 * (numM M e.to []).length:=a5
 unfold saveB
 simp only [List.length_append]
 omega

theorem numM_solid {M:St} (h:M.wf) (hf:FitA M) (hs:M.solid) (id:Int) {k:Nat} (hk:M.len ≤ (k:Int)):(numM M id []).length ≤ k:=by
 have hS:NumOk M (numM M id []):=(NumOk.nil M).next h hf id
 have h1:=ids_few M.cs.length (numM M id []) hS.once (fun x hx=>by
  cases hk:look M.cs x with
  | none=>exact absurd hk (hS.known x hx)
  | some r=>obtain ⟨a,c,_⟩:=look_some hk;exact ⟨a,c⟩)
 have hm:M.len=(M.cs.length:Int):=by unfold St.len;rw [hs.1];simp
 omega

end Go.Proofs.YtfpjogpjocedaaaGreat
