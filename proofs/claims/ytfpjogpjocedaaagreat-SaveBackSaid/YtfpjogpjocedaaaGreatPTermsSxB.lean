/-
  save.Load, save.Peek: what bytes are loaded as, or why they aren't.
-/
import Derived.Test.YtfpjogpjocedaaaGreatPLoadW
import Derived.Test.YtfpjogpjocedaaaGreatPPermRxB
import Derived.Test.YtfpjogpjocedaaaGreatPTermsS
namespace Go.Proofs.YtfpjogpjocedaaaGreat
set_option linter.unusedSimpArgs false
set_option linter.unusedVariables false
set_option maxHeartbeats 600000
open Go Go.RowKit

theorem TxtRep.far {base:Nat} {w:World} {tb:Nat} {n f:Int} {perm:List Int} {k:Int} {l:List Rec} {e:Edge} (h:TxtRep base w tb n f perm k l e) {pa:Option Addr} {pcap:Nat} (c2:w.cell? ⟨tb,2,none⟩=some (.slice pa perm.length pcap)) {b off:Nat} (hp:pa=some ⟨b,off,none⟩) (hne:0 < perm.length):base ≤ b:=by
 obtain ⟨⟨pv,lv,h1,h2,h3⟩,h4⟩:=h
 have e2:w.cell? ⟨tb,2,none⟩=some pv:=by rw [cell_of_row w tb 2 _ _ _ h1];rfl
 rw [e2] at c2
 cases c2
 subst hp
 exact row_from h2 rfl

def PeekOut (bs:List Int) (w:World) (e:Ending) (w':World):Prop:=
 Keeps w w' ∧ ((∃ T M1 ids pa pcap,GoodF bs T M1 ids ∧ e=.returned (.tuple #[.agg #[.int .i64 (T.vars:Int),.int .u8 (T.form:Int),.slice pa T.perm.length pcap,.int .i64 (T.l.length:Int)],.int .u8 0]) ∧ IntsAt w' pa T.perm) ∨
  ((∀ T M1 ids,¬ GoodB bs T M1 ids) ∧ e=.returned (.tuple #[.agg #[.int .i64 0,.int .u8 0,.slice none 0 0,.int .i64 0],.int .u8 7])))

set_option maxRecDepth 100000 in
theorem peek_calls (a:Option Addr) (cap:Nat) (bs:List Int) (w:World) (hba:BsAt w a bs) (hb:IsBs bs) (hl:bs.length ≤ 1048576) (hc:bs.length ≤ cap) :
  Calls Tryz.prog 11 #[.slice a bs.length cap] w (PeekOut bs w):=by
 have HGD:=Lib.hid (fun (W:World) (hW:Keeps w W)=>good_calls a cap bs W (hba.keeps hW) hb hl hc)
 obtain ⟨K,hK⟩:∃ K,K=bs.length:=⟨_,rfl⟩
 rw [← hK] at HGD ⊢
 clear hba hb hl hc hK
 go_enter Tryz.func11,Tryz.ntmps11
 go_wp2_with fail
 refine (HGD.out _ (by (exact kp))).mono ?_
 rintro e w2 ⟨hk2,hgo⟩
 have y0:w2.cell? ⟨w.heap.size,0,none⟩=some (.int .i64 0):=hk2.cell (by simp)
 have y1:w2.cell? ⟨w.heap.size,1,none⟩=some (.int .u8 0):=hk2.cell (by simp)
 have y2:w2.cell? ⟨w.heap.size,2,none⟩=some (.slice none 0 0):=hk2.cell (by simp)
 have y3:w2.cell? ⟨w.heap.size,3,none⟩=some (.int .i64 0):=hk2.cell (by simp)
 have yf:=fun o:Nat=>hk2.frz (a:=⟨w.heap.size,o,none⟩) (by show w.heap.size < _;simp) (by simp [go_sem])
 rcases hgo with ⟨T,M1,ids,tb,g1,g2,g3,g4,rfl,hT⟩ | ⟨hno,rfl⟩
 ·have HGF:Hid (GoodF bs T M1 ids):=Lib.hid ⟨g1,g2,g3,g4⟩
  obtain ⟨pa,pcap,c2,hpi⟩:=hT.perm
  have c0:=hT.cells.1
  have c1:=hT.cells.2.1
  have c3:=hT.cells.2.2.1
  have HPI:=Lib.hid hpi
  have HFAR:=Lib.hid (fun (b off:Nat) (hp:pa=some ⟨b,off,none⟩) (hne:0 < T.perm.length)=>hT.far c2 hp hne)
  obtain ⟨PL,hPL⟩:∃ PL,PL=T.perm.length:=⟨_,rfl⟩
  obtain ⟨LL,hLL⟩:∃ LL,LL=T.l.length:=⟨_,rfl⟩
  rw [← hPL] at c2
  rw [← hLL] at c3
  have HPL:=Lib.hid hPL
  have HLL:=Lib.hid hLL
  clear g1 g2 g3 g4 hT hpi hPL hLL
  go_wp2_with fail
  refine bodyPost_ret (v:=.tuple #[.agg #[.int .i64 (T.vars:Int),.int .u8 (T.form:Int),.slice pa PL pcap,.int .i64 (LL:Int)],.int .u8 0]) (by simp [results,Tryz.results11,go_sem,y0,y1,y2,y3]) rfl ?_
  have hu:Upd (fun k=>k=w.heap.size) w2 ((((w2.setCell ⟨w.heap.size,0,none⟩ (.int .i64 (T.vars:Int))).setCell ⟨w.heap.size,1,none⟩ (.int .u8 (T.form:Int))).setCell ⟨w.heap.size,2,none⟩ (.slice pa PL pcap)).setCell ⟨w.heap.size,3,none⟩ (.int .i64 (LL:Int))):=(updX2 w2 w.heap.size 0 1 _ _).trans' (updX2 _ w.heap.size 2 3 _ _)
  refine ⟨Keeps.new (F:=fun k=>k=w.heap.size) (by (exact kp)) hu (fun k hk=>by omega),.inl ⟨T,M1,ids,pa,pcap,HGF.out,by rw [← HPL.out,← HLL.out],fun i x hx=>?_⟩⟩
  obtain ⟨b,off,q1,q2⟩:=HPI.out i x hx
  refine ⟨b,off,q1,hu.cellAt (fun e=>?_) q2⟩
  have:=HFAR.out b off q1 (by have:=(List.getElem?_eq_some_iff.1 hx).1;omega)
  simp only [World.size_alloc] at this
  omega
 ·go_wp2_with fail
  refine bodyPost_ret (v:=.tuple #[.agg #[.int .i64 0,.int .u8 0,.slice none 0 0,.int .i64 0],.int .u8 7]) (by simp [results,Tryz.results11,go_sem,y0,y1,y2,y3]) rfl ?_
  exact ⟨by (exact kp),.inr ⟨hno,rfl⟩⟩

theorem tabP_ext {M M':St} (h:M.wf) (hE:Ext M M') {ps:List Int} {f:Int} {e:Edge} (hl:M.leads f e 0=true):tabP M' ps f e=tabP M ps f e:=by
 unfold tabP
 refine List.map_congr_left fun X _=>?_
 exact tv_ext h hE (Weak.of hl)

theorem right_one {f:Int} (hf:1 ≤ f ∧ f ≤ 5) {M:St} {e e':Edge} {k:Nat} {l:Int} (hw:M.wf) (hlen:M.len + 2 * ((2 ^ k:Nat):Int) ≤ 1048576) (he:0 ≤ e.to) (he':0 ≤ e'.to) (hfit:Fit0 M) (hl:M.leads f e l=true) (hl':M.leads f e' l=true) (hr:rightK M f e l) (hr':rightK M f e' l) (h0:0 ≤ l) (hn:l + (k:Int)=M.n)
  (ht:tabE M f e l=tabE M f e' l):e=e':=by
 have hp:0 < 2 ^ k:=Nat.pow_pos (by decide)
 obtain ⟨M1,x1,x2,x3,x4,x5,x6⟩:=right_isT hf hw (by omega) he hfit hl hr h0 hn
 obtain ⟨M2,y1,y2,y3,y4,y5,y6⟩:=right_isT (k:=k) hf x2 (by omega) he' x5 (x1.leads hl') (rightK_ext x1 hw hr') h0 (by rw [x1.n];exact hn)
 rw [tabE_ext hw x1 (Weak.of hl'),← ht] at y6
 exact IsT.det y2 _ _ _ _ _ (IsT.ext y1 hf _ _ _ _ x6) y6

theorem tabE_of_tabP {M:St} {ps:List Int} {f:Int} {e e':Edge} (hp:permB ps=true) (hn:M.n=(ps.length:Int)) (h:tabP M ps f e=tabP M ps f e'):tabE M f e 0=tabE M f e' 0:=by
 apply List.ext_getElem?
 intro y
 have hl:(tabE M f e 0).length=2 ^ ps.length:=by rw [tabE_len];congr 1;omega
 have hl':(tabE M f e' 0).length=2 ^ ps.length:=by rw [tabE_len];congr 1;omega
 by_cases hy:y < 2 ^ ps.length
 ·obtain ⟨X,hX,rfl⟩:=dnN_onto hp hy
  rw [tabE_dnN hn,tabE_dnN hn]
  have h1:=tabP_get (M:=M) (f:=f) (e:=e) hX
  have h2:=tabP_get (M:=M) (f:=f) (e:=e') hX
  rw [h] at h1
  rw [← h1,h2]
 ·rw [List.getElem?_eq_none (by omega),List.getElem?_eq_none (by omega)]

open Go.RowKit

theorem Stands.ext {M M':St} {f:Int} {ps:List Int} {has:Nat → Bool} {x:Edge} (h:Stands M f ps has x) (hw:M.wf) (hE:Ext M M'):Stands M' f ps has x:=
 ⟨h.ok,hE.leads h.lead,rightK_ext hE hw h.right,by rw [tabP_ext hw hE h.lead];exact h.tab⟩

end Go.Proofs.YtfpjogpjocedaaaGreat
