/-
  sift.bed's step.
-/
import Derived.Test.YtpgcbmbnognieaaGreatPSiftA
namespace Go.Proofs.YtpgcbmbnognieaaGreat
set_option maxRecDepth 1000000
set_option maxHeartbeats 8000000
set_option linter.unusedSimpArgs false
set_option linter.unusedVariables false
open Go.RowKit

theorem cost126 {n:Int}(hn:n≤6):∀ s:Nat,(s:Int)+1<n→costS (s:Int) 0≤126:=fun s hs=>by
 have hss:s=0∨s=1∨s=2∨s=3∨s=4:=by omega
 rcases hss with rfl|rfl|rfl|rfl|rfl<;>decide

theorem bedStep_bed {F Fo:Nat→Prop}{w:World}{bb lb cap sb ob:Nat}{la:Option Addr}{M:St}{ps:List Int}{fs:List (Int×List Bool)}{rs:List (Int×Edge)}(h:Bed F Fo w bb lb la cap sb ob M ps fs rs)(lv:Nat)(hlv:lv+1<ps.length) :
  Calls Tryz.prog 158 #[.pointer (some ⟨bb,0,none⟩),.int .i64 (lv:Int)] w fun e w'=>e=.returned (.bool true)∧BedAt F Fo (fun _=>False) w w' bb lb la cap sb ob (stepL ps lv) fs:=by
 have hN:rs.length=fs.length:=h.stand.1
 obtain⟨nb1,nb2,nb3⟩:=h.nb
 obtain⟨nl1,nl2⟩:=h.nl
 obtain⟨lbb,llb⟩:=h.lts
 have h6:=h.n6
 have h4:=h.few
 have hn:=h.sit.n
 have hsz:=(h.stand.size h.sit.rep h.perm hn h6 (by have:=h.sit.rep.wf.full;have:=h.vast;omega)).2
 have hlen:=h.len
 have hroom:=h.room
 have hroot:∀ W,Upd (fun j=>F j∨Fo j) w W→IsRoots W la rs:=fun W hW=>(h.row.keep hW (fun hh=>by rcases hh with q|q;exact nl1 q;exact nl2 q)).roots (fun r hr=>⟨by have:=(h.stand.leads r hr).1;omega,h.stand.oks r hr⟩)
 have e0:swapCode M ps.length (lv:Int) rs=0:=by unfold swapCode;rw [if_pos hn,if_neg (by omega)];exact mayL_ok h.sit.rep.wf h.stand.leads
 have hsw:=fun(W:World) (hW:Keeps w W)=>by
  have:=swapSwap_calls (c:=126) (h.sit.rep.keeps hW) (h.sit.ord.keeps hW) h.sit.dis (lv:Int) la cap (fun W' hW'=>hroot W' ((hW.upd _).trans' hW')) (by omega) (fun _ hl=>cost126 (n:=M.n) (by omega) lv hl) (by decide) (by rw [hN];omega) h.sit.room
  rw [e0,Int.toNat_natCast,hN] at this
  exact this.mono (fun r w1 hh=>(by
   rcases hh with⟨hc,_⟩|⟨h0,hh⟩
   ·exact absurd rfl hc
   ·exact .inr ⟨h0,hh.before hW⟩:SwapsOut F Fo w sb ob M ps [lv] rs 126 0 r w1))
 -- what swap makes, and what take makes of it
 have hnext:∀ r w1,SwapsOut F Fo w sb ob M ps [lv] rs 126 0 r w1→∃ g,r=.returned (.tuple #[.slice (some ⟨g,0,none⟩) fs.length fs.length,.int .u8 0])∧BedCells w1 bb la fs.length cap sb ob ∧
   ∀ W,Keeps w1 W→Calls Tryz.prog 214 #[.pointer (some ⟨bb,0,none⟩),.slice (some ⟨g,0,none⟩) fs.length fs.length] W fun e w'=>e=.returned (.tuple #[])∧BedAt F Fo (fun _=>False) w w' bb lb la cap sb ob (stepL ps lv) fs:=by
  intro r w1 hh
  rcases hh with⟨hc,_⟩|⟨_,g,es,M',F',rfl,hRow,hg,hRO,hS5,hF5,hgF,hO5,hU,hWt⟩
  ·exact absurd rfl hc
  ·have hxok:∀ e∈es,e.ok:=fun e he=>by
    obtain⟨k,hk⟩:=List.mem_iff_getElem?.1 he
    have hki:=(List.getElem?_eq_some_iff.1 hk).1
    exact(hRO.2 k _ e (List.getElem?_eq_getElem (by rw [← hRO.1];exact hki)) hk).ok
   have hsz1:=hU.size
   have nb':¬F' bb:=fun hh=>by rcases hF5 bb hh with q|q;exact nb1 q;omega
   have nl':¬F' lb:=fun hh=>by rcases hF5 lb hh with q|q;exact nl1 q;omega
   have hbc:=h.cells.keep hU (fun hh=>by rcases hh with q|q;exact nb1 q;exact nb2 q)
   have hrow:=h.row.keep hU (fun hh=>by rcases hh with q|q;exact nl1 q;exact nl2 q)
   refine⟨g,by rw [hN],hbc,fun W hW=>?_⟩
   have hszW:=hW.size
   have hel:es.length=fs.length:=hRO.1.trans hN
   refine(bedTake_calls (hbc.keeps hW) (hrow.keeps hW) (hRow.keeps hW) hN hel (by omega) hxok (hS5.keeps hW) (by omega) nb3 hgF nl' nb' (by omega)).mono ?_
   rintro e w' ⟨F2,rs',rfl,hmix,hrow2,hS2,hF2,hU2⟩
   refine⟨rfl,F2,sweepSt M' (es.map Edge.to),rs',?_,?_,?_⟩
   ·have hwU:Upd (fun j=>F' j∨j=lb) w1 w':=(hW.upd _).trans' hU2
    have hst:StandAll M' (stepL ps lv) fs rs':=h.stand.step (ss:=[lv]) hRO hmix.1 hmix.2
    have hsnd:=hmix.snd (by omega)
    have hst2:StandAll (sweepSt M' (es.map Edge.to)) (stepL ps lv) fs rs':=by
     have:=hst.sweep (by rw [hsnd];exact hS2.wf)
     rwa [hsnd] at this
    have hn':M'.n=(ps.length:Int):=by rw [hWt.ext.n,hn]
    have hp':=stepL_perm hlv h.perm
    have hl':=stepL_len ps lv
    have hs2:=hst.size hS5 hp' (by rw [hl'];exact hn') (by rw [hl'];exact h6) (by have:=hWt.wf.full;have:=hWt.room;have:=h.vast;omega)
    rw [hsnd] at hs2
    have hdis2:∀ k,F2 k→¬Fo k:=fun k h1 h2=>by
     have hk:=h.sit.ord.lt k h2
     rcases hF2 k h1 with q|q
     ·rcases hF5 k q with q2|q2
      ·exact h.sit.dis k q2 h2
      ·omega
     ·omega
    refine⟨⟨hS2,(hO5.keeps hW).keep hU2 (fun k g1 g2=>?_),hdis2,?_,?_⟩,hp',by rw [hl'];exact h6,h4,?_,?_,by show M'.room≤_;rw [hWt.room];exact h.vast,hst2,hrow2,(hbc.keeps hW).keep hU2 (fun hh=>?_),⟨fun hh=>?_,nb2,nb3⟩,⟨fun hh=>?_,nl2⟩,?_⟩
    ·rcases g2 with q|q
     ·rcases hF5 k q with q2|q2
      ·exact h.sit.dis k q2 g1
      ·have:=h.sit.ord.lt k g1;omega
     ·subst q;exact nl2 g1
    ·show M'.n=_;rw [hn',hl']
    ·show M'.room<_;rw [hWt.room];exact h.sit.room
    ·rw [sweep_few hS5];exact_mod_cast hs2.1
    ·show _<M'.room;rw [hWt.room];exact hroom
    ·rcases hh with q|q
     ·exact nb' q
     ·exact nb3 q
    ·rcases hF2 bb hh with q|q
     ·exact nb' q
     ·omega
    ·rcases hF2 lb hh with q|q
     ·exact nl' q
     ·omega
    ·have:=hU2.size;omega
   ·intro j hj
    rcases hF2 j hj with q|q
    ·rcases hF5 j q with q2|q2
     ·exact .inl q2
     ·exact .inr q2
    ·exact .inr (by omega)
   ·refine(hU.mono (fun k _ hk=>?_)).later ((hW.upd _).trans' hU2) (fun i hi hh=>?_)
    ·rcases hk with q|q
     ·exact .inl q
     ·exact .inr (.inl q)
    ·rcases hh with q|q
     ·rcases hF5 i q with q2|q2
      ·exact .inl q2
      ·omega
     ·exact .inr (.inr (.inl q))
 have hcell:=h.cells
 have HSW:=Lib.hid hsw
 have HNX:=Lib.hid hnext
 obtain⟨N,hNN⟩:∃ N,N=fs.length:=⟨_,rfl⟩
 rw [← hNN] at HSW HNX hcell h4
 have c0:=hcell.c0
 have c1:=hcell.c1
 have c2:=hcell.c2
 have c3:=hcell.c3
 clear hsw hnext e0 hroot hlen hroom hsz hn h hN hNN hcell
 go_enter Tryz.func158,Tryz.ntmps158
 go_wp2_with fail
 refine wp_region_head 13 #[true,true,true,true,true,true,true,true,true,true,true,true,true,false,false,false,false,false,false] (by kernel_rfl) (by kernel_rfl) ?_
 simp only [List.take_succ_cons,List.take_zero,List.drop_succ_cons,List.drop_zero]
 repeat still_step
 refine wpStill_nil ?_
 refine wpAny_ready (fuel:=5) (rs:=[13]) (by kernel_rfl) (by decide) (AllReady.cons rfl (fun K hK=>?_) AllReady.nil)
 go_simp
 refine(HSW.out _ (by(exact kp))).mono ?_
 rintro r w1 hh
 obtain⟨g,rfl,hbc,htk⟩:=HNX.out _ _ hh
 have HTK:=Lib.hid htk
 have d3:=hbc.c3
 clear hh htk hbc
 refine hK _ _ ?_
 clear hK K
 refine wpAny_take (i:=14) (v:=?_) rfl (by kernel_rfl) (by kernel_rfl) (by kernel_rfl) (fun _ _ _ h=>h) (Or.inl ⟨by rfl,?_⟩) ?_
 rotate_left
 ·intro w;go_simp;try with_reducible rfl
 refine wpAny_take (i:=15) (v:=?_) rfl (by kernel_rfl) (by kernel_rfl) (by kernel_rfl) (fun _ _ _ h=>h) (Or.inl ⟨by rfl,?_⟩) ?_
 rotate_left
 ·intro w;go_simp;try with_reducible rfl
 refine wpAny_take (i:=16) (v:=?_) rfl (by kernel_rfl) (by kernel_rfl) (by kernel_rfl) (fun _ _ _ h=>h) (Or.inl ⟨by rfl,?_⟩) ?_
 rotate_left
 ·intro w;go_simp;try with_reducible rfl
 refine wpAny_ready (rs:=[17]) (by kernel_rfl) (by decide) (AllReady.cons rfl (fun K hK=>?_) AllReady.nil)
 go_simp
 refine hK _ _ ?_
 clear hK K
 refine wpAny_ready (rs:=[18]) (by kernel_rfl) (by decide) (AllReady.cons rfl (fun K hK=>?_) AllReady.nil)
 go_simp
 refine hK _ _ ?_
 clear hK K
 refine wpAny_done (by kernel_rfl) ?_ _
 go_wp2_with fail
 refine(HTK.out _ (by(exact kp))).mono ?_
 rintro e w2 ⟨rfl,hB⟩
 have HB:=Lib.hid hB
 clear hB
 go_wp2_with fail
 go_ret
 exact⟨rfl,HB.out⟩

theorem bedStep_calls {F0 Fo X:Nat→Prop}{w0 w:World}{bb lb cap sb ob:Nat}{la:Option Addr}{ps:List Int}{fs:List (Int×List Bool)}(h:BedAt F0 Fo X w0 w bb lb la cap sb ob ps fs)(lv:Nat)(hlv:lv+1<ps.length) :
  Calls Tryz.prog 158 #[.pointer (some ⟨bb,0,none⟩),.int .i64 (lv:Int)] w fun e w'=>e=.returned (.bool true)∧BedAt F0 Fo X w0 w' bb lb la cap sb ob (stepL ps lv) fs∧Upd (fun j=>F0 j∨Fo j∨j=lb∨w0.heap.size≤j) w w':=by
 obtain⟨F,M,rs,h1,h2,h3⟩:=h
 refine(bedStep_bed h1 lv hlv).mono ?_
 rintro e w' ⟨rfl,hB⟩
 refine⟨rfl,BedAt.next h2 h3 (fun _ hh=>hh.elim) hB,?_⟩
 obtain⟨_,_,_,_,_,hU⟩:=hB
 refine hU.mono (fun k _ hk=>?_)
 rcases hk with q|q|q|q
 ·rcases h2 k q with q2|q2
  ·exact .inl q2
  ·exact .inr (.inr (.inr q2))
 ·exact .inr (.inl q)
 ·exact .inr (.inr (.inl q))
 ·exact q.elim

theorem ints_owns {w:World}{base N cap:Nat}{a:Option Addr}{xs:List Int}(h:w.ownsRow base 3 1 (.slice a N cap) N (xs.map (Value.int .i64)))(hN:N=xs.length):IntsAt w a xs:=fun i x hx=>by
 have hi:=(List.getElem?_eq_some_iff.1 hx).1
 rcases h.2 with⟨e0,hz⟩|⟨g2,cap2,cur,e0,hbg,_⟩
 ·omega
 ·cases e0
  refine⟨g2,0,rfl,?_⟩
  rw [Nat.zero_add,h.cellAt i (by omega),List.getElem?_map,hx]
  rfl

theorem bedPermute_bed {F Fo:Nat→Prop}{w:World}{bb lb cap sb ob cap2:Nat}{la a2:Option Addr}{M:St}{ps qs:List Int}{fs:List (Int×List Bool)}{rs:List (Int×Edge)}(h:Bed F Fo w bb lb la cap sb ob M ps fs rs)(hI:IntsAt w a2 qs)(hq:permB qs=true)(hl:ps.length=qs.length) :
  Calls Tryz.prog 96 #[.pointer (some ⟨bb,0,none⟩),.slice a2 qs.length cap2] w fun e w'=>e=.returned (.bool true)∧BedAt F Fo (fun _=>False) w w' bb lb la cap sb ob qs fs:=by
 have hp:=h.perm
 have h6:=h.n6
 have hpm:=fun(W:World) (hW:Keeps w W)=>ordPerm_calls (h.sit.ord.keeps hW)
 have hstp:=fun(W:World) (a:Option Addr) (c:Nat) (hW:Keeps w W) (hA:IntsAt W a ps)=>steps_calls a a2 c cap2 ps qs W hA (hI.keeps hW) hp hq hl
 have c1:=h.cells.c1
 have hB0:=fun(W:World) (hW:Keeps w W)=>BedAt.start (h.keeps hW) (fun _=>False)
 have hFlt:∀ k,(F k∨Fo k∨k=lb∨False)→k<w.heap.size:=fun k hk=>by
  rcases hk with q|q|q|q
  ·exact h.sit.rep.lt k q
  ·exact h.sit.ord.lt k q
  ·subst q;exact h.lts.2
  ·exact q.elim
 have HPM:=Lib.hid hpm
 have HST:=Lib.hid hstp
 have HB0:=Lib.hid hB0
 have HLT:=Lib.hid hFlt
 obtain⟨n,hn⟩:∃ n,n=ps.length:=⟨_,rfl⟩
 rw [← hl,← hn] at HST ⊢
 rw [← hn] at HPM h6
 have HN:=Lib.hid hn
 clear hpm hstp hB0 hFlt hI h hl hn hp hq
 go_enter Tryz.func96,Tryz.ntmps96
 go_wp2_with fail
 refine(HPM.out _ (by(exact kp))).mono ?_
 rintro e w1 ⟨a1,c1',rfl,hV,hk1⟩
 have HST1:=Lib.hid (HST.out w1 a1 c1' hk1 hV.ints)
 have HK1:=Lib.hid hk1
 clear hV hk1
 go_wp2_with fail
 refine HST1.out.mono ?_
 rintro e w2 ⟨ss,a3,c3,rfl,hown,hrun,hin,hfew,hk2⟩
 have hk02:=HK1.out.trans hk2
 have hB2:=HB0.out w2 hk02
 have hlo:∀ k,(Value.slice a3 ss.length c3).ownBlock=some k→k<w2.heap.size:=fun k hk=>by
  rcases hown.2 with⟨e0,_⟩|⟨g',cap',cur,e0,hbg,hc,_⟩
  ·rw [e0] at hk;simp [Value.ownBlock] at hk
  ·rw [e0] at hk;simp [Value.ownBlock] at hk;subst hk;exact lt_of_heap hc
 have HLO:=Lib.hid hlo
 have HOWN:=Lib.hid hown
 have HB2:=Lib.hid hB2
 have HRUN:=Lib.hid hrun
 have HIN:=Lib.hid hin
 have hs1:=HK1.out.size
 have HK02:=Lib.hid hk02
 obtain⟨K,hK⟩:∃ K,K=ss.length:=⟨_,rfl⟩
 rw [← hK] at hfew HOWN HLO ⊢
 have HK:=Lib.hid hK
 have hnn:K≤36:=by
  have:n*n≤6*6:=Nat.mul_le_mul h6 h6
  omega
 clear hown hB2 hrun hin hk2 hk02 hK hfew HST1 HST HPM hlo
 go_wp2_with fail
 go_loopg [21] K (fun gk s21 wr=>∃ d:Nat,s21=.int .i64 (d:Int)∧d+gk=K∧BedAt F Fo (fun _=>False) w2 wr bb lb la cap sb ob (runL ps (ss.take d)) fs∧wr.ownsRow w1.heap.size 3 1 (.slice a3 K c3) K (ss.map (fun s:Nat=>Value.int .i64 (s:Int))))
 case atStart=>exact⟨0,rfl,by omega,HB2.out,HOWN.out⟩
 case round=>
  obtain⟨d,rfl,hd,hB,hown⟩:=hrel
  by_cases hlt:d<K
  ·obtain⟨s,hx⟩:∃ s,ss[d]?=some s:=⟨_,List.getElem?_eq_getElem (by rw [← HK.out];exact hlt)⟩
   obtain⟨g,rfl,cg⟩:∃ g,a3=some ⟨g,0,none⟩∧wr.cell? ⟨g,d,none⟩=some (.int .i64 (s:Int)):=by
    rcases hown.2 with⟨e0,hz⟩|⟨g2,cap2,cur,e0,hbg,_⟩
    ·omega
    ·cases e0
     refine⟨g2,rfl,?_⟩
     rw [hown.cellAt d (by omega),List.getElem?_map,hx]
     rfl
   have hsl:s+1<(runL ps (ss.take d)).length:=by rw [runL_len,← HN.out];exact HIN.out s (List.mem_of_getElem? hx)
   have hst:=bedStep_calls hB s hsl
   have hnx:stepL (runL ps (ss.take d)) s=runL ps (ss.take (d+1)):=by rw [take_snoc hx,runL_snoc]
   rw [hnx] at hst
   have HST:=Lib.hid hst
   have HOW:=Lib.hid hown
   clear hst hnx hsl hx hown hB
   go_wp2_with fail
   refine HST.out.mono ?_
   rintro e w4 ⟨rfl,hB4,hU4⟩
   have hown4:=hU4.owns (fun k hk hh=>by
    have hkb:w1.heap.size≤k:=by
     rcases HOW.out.2 with⟨e0,_⟩|⟨g',cap',cur,e0,hbg,_⟩
     ·rw [e0] at hk;simp [Value.ownBlock] at hk
     ·rw [e0] at hk;simp [Value.ownBlock] at hk;omega
    have hk2l:k<w2.heap.size:=HLO.out k hk
    rcases hh with q|q|q|q
    ·have:=HLT.out k (.inl q);omega
    ·have:=HLT.out k (.inr (.inl q));omega
    ·have:=HLT.out k (.inr (.inr (.inl q)));omega
    ·omega) HOW.out
   have HB4:=Lib.hid hB4
   have HOW4:=Lib.hid hown4
   clear hB4 hU4 hown4
   go_wp2_with fail
   go_roundg (gk-1)
   case rel=>exact⟨d+1,by simp,by omega,HB4.out,HOW4.out⟩
   case measure=>omega
  ·have hout:BedAt F Fo (fun _=>False) w wr bb lb la cap sb ob qs fs:=by
    have:ss.take d=ss:=List.take_of_length_le (by rw [← HK.out];omega)
    rw [this,HRUN.out] at hB
    exact BedAt.next (fun j hj=>.inl hj) (HK02.out.upd _) (fun _ hh=>hh.elim) hB
   have HOUT:=Lib.hid hout
   clear hout hB hown
   go_wp2_with fail
   go_ret
   exact⟨rfl,HOUT.out⟩

end Go.Proofs.YtpgcbmbnognieaaGreat
