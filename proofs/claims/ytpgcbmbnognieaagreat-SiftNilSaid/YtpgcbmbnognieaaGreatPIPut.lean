/-
  Put of a new key into an index.
-/
import Derived.Test.YtpgcbmbnognieaaGreatPIndexA
namespace Go.Proofs.YtpgcbmbnognieaaGreat
set_option maxRecDepth 1000000
set_option maxHeartbeats 8000000
set_option linter.unusedSimpArgs false
set_option linter.unusedVariables false
open Go.RowKit

structure PutMid (w:World)(ib tb cap:Nat)(ts:Tab)(n:Int)(k:Nat)(r:Rec)(id:Int)(W:World):Prop where
 heap:W.heap[ib]?=some (.cells #[.slice (some ⟨tb,0,none⟩) ts.length cap,.int .i64 (n+1)] 265 (0,0))
 row:W.ownsRow 0 267 9 (.slice (some ⟨tb,0,none⟩) ts.length cap) ts.length ((ts.set k (some (r,id))).flatMap slotVals)
 upd:Upd (fun x=>x=ib∨x=tb) w W

theorem PutMid.keeps {w:World}{ib tb cap:Nat}{ts:Tab}{n:Int}{k:Nat}{r:Rec}{id:Int}{W W':World}(h:PutMid w ib tb cap ts n k r id W)(hk:Keeps W W'):PutMid w ib tb cap ts n k r id W':=
 ⟨hk.heap h.heap,hk.owns h.row,h.upd.trans' (hk.upd _)⟩

theorem PutMid.mk' {w w1:World}{ib tb cap:Nat}{ts:Tab}{n:Int}(hib:w.heap[ib]?=some (.cells #[.slice (some ⟨tb,0,none⟩) ts.length cap,.int .i64 n] 265 (0,0)))
  (htb:w.ownsRow 0 267 9 (.slice (some ⟨tb,0,none⟩) ts.length cap) ts.length (ts.flatMap slotVals)) (hk1:Keeps w w1) {k:Nat} (hk:k<ts.length) (r:Rec) (id:Int) :
  PutMid w ib tb cap ts n k r id ((set9 w1 tb (k*9) (slotVals (some (r,id)))).setCell ⟨ib,1,none⟩ (.int .i64 (n+1))):=by
 obtain⟨cur,hcur⟩:=owns_type htb (k:=tb) rfl
 have hne:tb≠ib:=ne_of_type hcur hib (by decide)
 have u9:=set9_upd tb (slotVals (some (r,id))) (k*9) w1
 have h9:=set9_owns slotVals slotVals_length rfl (hk1.owns htb) k hk (some (r,id))
 have hi9:=(u9.block ib (Nat.lt_of_lt_of_le (lt_of_heap hib) hk1.size) (fun e=>hne e.symm)).trans (hk1.heap hib)
 refine⟨heap_setCell_same _ ib 1 _ _ _ hi9,?_,?_⟩
 ·exact Upd.owns (F:=fun x=>x=ib) (Upd.setCell (F:=fun x=>x=ib) (p:=⟨ib,1,none⟩) (Upd.refl _ _) (Or.inl rfl) _) (fun x hx=>by simp [Value.ownBlock] at hx;omega) h9
 ·exact Upd.setCell (F:=fun x=>x=ib∨x=tb) (p:=⟨ib,1,none⟩) ((hk1.upd _).trans' (u9.mono (fun x _ e=>.inr e))) (Or.inl (.inl rfl)) _

theorem iput_low {w:World}{ib tb cap:Nat}{ts:Tab}{n:Int}(hib:w.heap[ib]?=some (.cells #[.slice (some ⟨tb,0,none⟩) ts.length cap,.int .i64 n] 265 (0,0)))
  (htb:w.ownsRow 0 267 9 (.slice (some ⟨tb,0,none⟩) ts.length cap) ts.length (ts.flatMap slotVals)) (h22:ts.length≤4194304) (hn0:0≤n) (hn1:n≤1048576) (k:Nat) (hkl:k<ts.length) (r:Rec) (id:Int) (hs:ts[k]?=some none)
  (R:World→World→Prop) (hR:∀ W,PutMid w ib tb cap ts n k r id W→2*(n+1)≤(ts.length:Int)→R W W)
  (hG:∀ W,PutMid w ib tb cap ts n k r id W→(ts.length:Int)<2*(n+1)→Calls Tryz.prog 194 #[.pointer (some ⟨ib,0,none⟩)] W fun e w'=>e=.returned (.tuple #[])∧R W w')
  (hfind:∀ W,Keeps w W→Calls Tryz.prog 190 #[.pointer (some ⟨ib,0,none⟩),.agg #[.int .u8 r.form,.int .u8 r.top,.int .u8 r.bot,.int .u8 r.lo.tag,.int .u32 r.lo.to,.int .u8 r.hi.tag,.int .u32 r.hi.to]] W fun e w'=>e=.returned (.int .i64 (k:Int))∧Keeps W w') :
  Calls Tryz.prog 132 #[.pointer (some ⟨ib,0,none⟩),.agg #[.int .u8 r.form,.int .u8 r.top,.int .u8 r.bot,.int .u8 r.lo.tag,.int .u32 r.lo.to,.int .u8 r.hi.tag,.int .u32 r.hi.to],.int .u32 id] w fun e w'=>e=.returned (.tuple #[.int .u32 0,.bool false])∧∃ W,PutMid w ib tb cap ts n k r id W∧R W w':=by
 have c0:w.cell? ⟨ib,0,none⟩=some (.slice (some ⟨tb,0,none⟩) ts.length cap):=by rw [cell_of_row w ib 0 _ _ _ hib];rfl
 have c1:w.cell? ⟨ib,1,none⟩=some (.int .i64 n):=by rw [cell_of_row w ib 1 _ _ _ hib];rfl
 have fi1:w.frozen? ⟨ib,1,none⟩=false:=frozen_of_row w ib 1 _ _ hib
 have hibl:=lt_of_heap hib
 obtain⟨cur,hcur⟩:=owns_type htb (k:=tb) rfl
 have htbl:=lt_of_heap hcur
 have hne:ib≠tb:=ne_of_type hib hcur (by decide)
 have hne':tb≠ib:=hne.symm
 have hfz:∀ j,w.frozen? ⟨tb,j,none⟩=false:=fun j=>htb.frozenAt j
 have hv:=fun j (hj:j<9)=>(htb.cellAt (k*9+j) (by omega)).trans (flat_get slotVals 9 slotVals_length ts k j none hs hj)
 have hki:(k:Int)<(ts.length:Int):=by omega
 have HI:=Lib.hid hib
 have HT:=Lib.hid htb
 have HV:=Lib.hid hv
 have H:=Lib.hid hfind
 have HR:=Lib.hid hR
 have HG:=Lib.hid hG
 clear hcur hib htb hv hs hfind hR hG
 go_enter Tryz.func132,Tryz.ntmps132
 go_wp2_with (first|(go_at_call 190;refine(H.out _ (by(exact kp))).mono ?_;rintro e w1 ⟨rfl,hb⟩;obtain⟨y0,y1,y2,y3,y4,y5,y6⟩:=box7 (w:=w) (w1:=w1) (show Keeps (w.alloc (.cells #[.int .u8 r.form,.int .u8 r.top,.int .u8 r.bot,.int .u8 r.lo.tag,.int .u32 r.lo.to,.int .u8 r.hi.tag,.int .u32 r.hi.to] 206)) w1 by(exact kp));have hk:Keeps w w1:=(((Keeps.refl _).alloc _).trans hb);have d0:=hk.cell c0;have d1:=hk.cell c1;have fd1:=(Below.frozen (p:=⟨ib,1,none⟩) hk hibl).trans fi1;have fz:∀ j,w1.frozen? ⟨tb,j,none⟩=false:=(fun j=>(Below.frozen (p:=⟨tb,j,none⟩) hk htbl).trans (hfz j));have q0:w1.cell? ⟨tb,k*9,none⟩=some (.int .u8 0):=hk.cell (HV.out 0 (by omega));have q1:w1.cell? ⟨tb,k*9+1,none⟩=some (.int .u8 0):=hk.cell (HV.out 1 (by omega));have q2:w1.cell? ⟨tb,k*9+2,none⟩=some (.int .u8 0):=hk.cell (HV.out 2 (by omega));have q3:w1.cell? ⟨tb,k*9+3,none⟩=some (.int .u8 0):=hk.cell (HV.out 3 (by omega));have q4:w1.cell? ⟨tb,k*9+4,none⟩=some (.int .u32 0):=hk.cell (HV.out 4 (by omega));have q5:w1.cell? ⟨tb,k*9+5,none⟩=some (.int .u8 0):=hk.cell (HV.out 5 (by omega));have q6:w1.cell? ⟨tb,k*9+6,none⟩=some (.int .u32 0):=hk.cell (HV.out 6 (by omega));have q7:w1.cell? ⟨tb,k*9+7,none⟩=some (.int .u32 0):=hk.cell (HV.out 7 (by omega));have q8:w1.cell? ⟨tb,k*9+8,none⟩=some (.bool false):=hk.cell (HV.out 8 (by omega)))|fail)
 have hm:=PutMid.mk' (n:=n) HI.out HT.out hk hkl r id
 simp only [set9,slotVals,recVals,List.cons_append,List.nil_append] at hm
 have HM:=Lib.hid hm
 clear hm
 have hwb1:w.heap.size≠tb:=by omega
 have hwb2:w.heap.size≠ib:=by omega
 go_region
 go_wp2
 by_cases hgr:(ts.length:Int)<2*(n+1)
 ·go_quiet (fail)
  go_wp2_with (first|(go_at_call 194;refine(HG.out _ (HM.out.keeps (by(exact kp))) hgr).mono ?_;rintro e w2 ⟨rfl,hr2⟩)|fail)
  go_ret2
  exact⟨rfl,_,HM.out.keeps (by(exact kp)),hr2⟩
 ·go_quiet (fail)
  go_wp2
  go_ret2
  exact⟨rfl,_,HM.out.keeps (by(exact kp)),HR.out _ (HM.out.keeps (by(exact kp))) (by omega)⟩

theorem index_put {F:Nat→Prop}{w:World}{ib:Nat}{ts:Tab}{n:Int}(h:IndexRep F w ib ts n)(hn:n=(occ ts:Int))(hn1:occ ts<1048576)(r:Rec)(hr:r.ok)(id:Int)(hid0:0≤id)(hid1:id≤4294967295)(hno:∀ id',¬Tab.has ts r id') :
  Calls Tryz.prog 132 #[.pointer (some ⟨ib,0,none⟩),.agg #[.int .u8 r.form,.int .u8 r.top,.int .u8 r.bot,.int .u8 r.lo.tag,.int .u32 r.lo.to,.int .u8 r.hi.tag,.int .u32 r.hi.to],.int .u32 id] w fun e w'=>e=.returned (.tuple #[.int .u32 0,.bool false])∧Upd F w w' ∧
   ∃ ts',IndexRep (Grow F w w') w' ib ts' (n+1)∧n+1=(occ ts':Int)∧∀ r' id',Tab.has ts' r' id'↔(r'=r∧id'=id)∨Tab.has ts r' id':=by
 obtain⟨D,hD⟩:=ends_of (H:=homeN) r h.room
 obtain⟨k,hkD⟩:∃ k:Nat,k=(homeN r ts.length+D)%ts.length:=⟨_,rfl⟩
 have hfind:∀ W,Keeps w W→Calls Tryz.prog 190 #[.pointer (some ⟨ib,0,none⟩),.agg #[.int .u8 r.form,.int .u8 r.top,.int .u8 r.bot,.int .u8 r.lo.tag,.int .u32 r.lo.to,.int .u8 r.hi.tag,.int .u32 r.hi.to]] W fun e w'=>e=.returned (.int .i64 (k:Int))∧Keeps W w':=fun W hW=>by
  rw [hkD]
  exact index_find (h.keeps hW) r hr D hD
 have hlt:k<ts.length:=by rw [hkD];exact Nat.mod_lt _ (by have:=hD.lt;omega)
 have hs:ts[k]?=some none:=by
  rcases hD.stop with hs|⟨id',hs⟩
  ·rw [hkD];exact hs
  ·exact(hno id' ⟨_,hs⟩).elim
 obtain⟨b1,b2,b3⟩:=h.ok.put hD (hkD ▸ hs) id
 rw [← hkD] at b1 b2 b3
 obtain⟨⟨tb,cap,h1,h2,h3⟩,a1,⟨p,a2⟩,a3,a4,a5,a6,a7⟩:=h
 have hsub:∀ x,x=ib∨x=tb→F x:=fun x hx=>by rcases hx with rfl|rfl;exact a1;exact h3
 have hlen:(ts.set k (some (r,id))).length=ts.length:=List.length_set
 have hfit:∀ r' id',Tab.has (ts.set k (some (r,id))) r' id'→r'.ok∧0≤id'∧id'≤4294967295:=fun r' id' hh=>by
  rcases(b3 r' id').1 hh with⟨rfl,rfl⟩|hh
  ·exact⟨hr,hid0,hid1⟩
  ·exact a7 r' id' hh
 refine(iput_low h1 h2 a4 (by omega) (by omega) k hlt r id hs (fun W w'=>(W=w'∧2*(n+1)≤(ts.length:Int))∨((ts.length:Int)<2*(n+1)∧∃ nt,GrowInv W ib (ts.set k (some (r,id))) (n+1) ts.length nt w')) (fun W hW hle=>.inl ⟨rfl,hle⟩) (fun W hW hgt=>?_) hfind).mono ?_
 ·refine(grow_low (F:=F) (w:=W) (ib:=ib) (ts:=ts.set k (some (r,id))) (n:=n+1) tb cap p (by rw [hlen];exact hW.heap) (by rw [hlen];exact hW.row) (by rw [hlen];exact a2) (by omega) (by omega) b1 hfit).mono ?_
  rintro e w' ⟨rfl,nt,hg⟩
  rw [hlen] at hg
  exact⟨rfl,.inr ⟨hgt,nt,hg⟩⟩
 ·rintro e w' ⟨rfl,W,hW,hRR⟩
  have hu:Upd F w W:=hW.upd.mono (fun x _ hx=>hsub x hx)
  rcases hRR with⟨rfl,hle⟩|⟨hgt,nt,hg⟩
  ·refine⟨rfl,hu,ts.set k (some (r,id)),⟨⟨tb,cap,by rw [hlen];exact hW.heap,by rw [hlen];exact hW.row,.inl h3⟩,.inl a1,⟨p,by rw [hlen];exact a2⟩,by omega,by omega,by omega,b1,hfit⟩,by omega,b3⟩
  ·have hcnt:=hg.cnt
   have hgl:=hg.len
   rw [List.take_of_length_le (by omega)] at hcnt
   have hbl:W.heap.size<w'.heap.size:=by
    obtain⟨cur,hcur⟩:=owns_type hg.row (k:=W.heap.size) rfl
    exact lt_of_heap hcur
   have hsz:=hW.upd.size
   refine⟨rfl,hu.trans' (hg.upd.mono (fun x _ hx=>by subst hx;exact a1)),nt,⟨⟨W.heap.size,2*ts.length,?_,?_,.inr ⟨hsz,hbl⟩⟩,.inl a1,⟨p+1,by rw [hgl,hlen,a2,Nat.pow_succ];omega⟩,by omega,by omega,by omega,hg.ok,?_⟩,by omega,?_⟩
   ·rw [hgl,hlen]
    have:=hg.heap
    rw [hlen] at this
    exact this
   ·rw [hgl,hlen]
    have:=hg.row
    rw [hlen] at this
    exact this
   ·intro r' id' hh
    obtain⟨j,_,hj⟩:=(hg.has r' id').1 hh
    exact hfit r' id' ⟨j,hj⟩
   ·intro r' id'
    rw [← b3 r' id',hg.has r' id']
    constructor
    ·rintro⟨j,_,hj⟩
     exact⟨j,hj⟩
    ·rintro⟨j,hj⟩
     exact⟨j,by have:=(List.getElem?_eq_some_iff.1 hj).1;omega,hj⟩

theorem index_new (w:World) :
  Calls Tryz.prog 127 #[] w fun e w'=>∃ ib,e=.returned (.pointer (some ⟨ib,0,none⟩))∧w.heap.size≤ib∧Keeps w w'∧IndexRep (fun k=>w.heap.size≤k∧k<w'.heap.size) w' ib (List.replicate 8 none) 0:=by
 obtain⟨i0,hi,hz0,hz1,hz2⟩:=info_parts info_slot
 go_enter Tryz.func127,Tryz.ntmps127
 go_wp2_with (at_make;refine wpList_make_full _ rfl _ _ 263 rfl w.heap.size 267 i0 _ 9 Tryz.underlying263 hi hz0 hz1 .i64 .i64 8 8 8 rfl rfl (by omega) (by omega) (by rw [hz2];omega) (by unfold maxLen;omega) (Nat.le_refl _) ?_;intro w1 hown1 hg1)
 go_ret
 rw [made_slots] at hown1
 have hk:Keeps w w1:=Upd.keeps (F:=fun _=>False) ((Upd.refl _ w).grown hg1 (fun k hk=>by simp at hk)) (fun _ _ h=>h)
 obtain⟨cur,hcur⟩:=owns_type hown1 (k:=w.heap.size) rfl
 have hlt:=lt_of_heap hcur
 obtain⟨e1,e2,e3⟩:=TabOk.empty homeN 8
 refine⟨w1.heap.size,rfl,hk.size,hk.alloc _,⟨⟨w.heap.size,8,?_,?_,?_⟩,?_,⟨3,rfl⟩,by simp,by simp,by rw [e2];simp,e1,fun r id h=>(e3 r id h).elim⟩⟩
 ·exact heap_alloc_new w1 _
 ·exact owns_base (hown1.alloc _) (Nat.zero_le _)
 ·simp;omega
 ·have:=hk.size
  simp
  omega

end Go.Proofs.YtpgcbmbnognieaaGreat
