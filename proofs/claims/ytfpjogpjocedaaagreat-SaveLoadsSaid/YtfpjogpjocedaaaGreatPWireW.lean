/-
  wire.Put behind no bytes: a number's bytes, in a row of the call's own.
-/
import Derived.Test.YtfpjogpjocedaaaGreatPWireP
namespace Go.Proofs.YtfpjogpjocedaaaGreat
set_option linter.unusedSimpArgs false
set_option linter.unusedVariables false
set_option maxHeartbeats 600000
open Go.RowKit

theorem info_byte:(Tryz.prog.info? 5).map (fun i=>(i.zero,i.size,i.bytes))=some (some (.int .u8 0),1,1):=by kernel_rfl

set_option maxRecDepth 100000 in
theorem cloneB_nil (w:World):Calls Tryz.prog 164 #[.slice none 0 0] w fun e w'=>e=.returned (.slice none 0 0) ∧ w=w':=by
 have hnil:=fun (W:World)=>Lib.run_eql_slice_nil (P:=Tryz.prog) W 24 5 none 0 0 0 0 Tryz.underlying24
 go_enter Tryz.func164,Tryz.ntmps164
 go_wp2
 go_ret
 exact ⟨rfl,rfl⟩

theorem row_from {w:World} {base:Nat} {e:TypeId} {size:Nat} {v:Value} {n:Nat} {xs:List Value} (h:w.ownsRow base e size v n xs) {k:Nat} (hk:v.ownBlock=some k):base ≤ k:=by
 rcases h.2 with ⟨e0,_⟩ | ⟨g',cap',cur,e0,hbg,_⟩
 ·rw [e0] at hk;simp [Value.ownBlock] at hk
 ·rw [e0] at hk;simp [Value.ownBlock] at hk;omega

theorem wpList_ok {P:Program} {ops:Array Oper} {rest:List Oper} {o:Oper} {a:Act} {w w':World} {Q:Exit → Act → World → Prop} {v:Value} (hg:o.guard=none) (hr:(execOp a.eval o).run P w=.ok (.value v) w') (h:wpList P ops Q rest (a.put o.dst v) w'):wpList P ops Q (o :: rest) a w:=
 wpList_plain hg fun K hK=>by
  unfold Oper.wp
  rw [hr]
  exact hK _ _ h

theorem put_step {pre:List Int} {m n:Nat} (h:pre ++ putB m=putB n) (hm:¬ m < 128):(pre ++ [((m % 128 + 128:Nat):Int)]) ++ putB (m / 128)=putB n:=by
 rw [← h,putB_more hm,List.append_assoc]
 rfl

theorem put_end {pre:List Int} {m n:Nat} (h:pre ++ putB m=putB n) (hm:m < 128):pre ++ [(m:Int)]=putB n:=by
 rw [← h,putB_low hm]

set_option maxRecDepth 100000 in
set_option maxHeartbeats 2000000 in
theorem wirePut_calls (n:Nat) (hn:n < 2 ^ 64) (w:World) :
  Calls Tryz.prog 137 #[.slice none 0 0,.int .u64 (n:Int)] w fun e w'=>∃ v,e=.returned v ∧ w'.ownsRow w.heap.size 5 1 v (putB n).length (byteVs (putB n)) ∧ Keeps w w':=by
 have HL:=Lib.hid (putB_len10 hn)
 obtain ⟨i5,hi5,hz50,hz51,hz52⟩:=info_parts info_byte
 have HN:=Lib.hid hn
 clear hn
 go_enter Tryz.func137,Tryz.ntmps137
 go_wp2_with (first | (go_at_call 164;refine (cloneB_nil _).mono ?_;rintro e w1 ⟨rfl,rfl⟩) | fail)
 go_loopg [0,1] n (fun gk s0 s1 wr=>∃ (pre:List Int) (v:Value),s0=v ∧ s1=.int .u64 (gk:Int) ∧ gk < 2 ^ 64 ∧ pre ++ putB gk=putB n ∧ wr.ownsRow w.heap.size 5 1 v pre.length (byteVs pre) ∧ Keeps w wr)
 case atStart=>exact ⟨[],_,rfl,rfl,HN.out,rfl,World.ownsRow_nil _ _ _ _,by (exact kp)⟩
 case round=>
  obtain ⟨pre,v,rfl,rfl,hm,hpre,h5,hk⟩:=hrel
  obtain ⟨a5,cap5,rfl,-⟩:=owns_slice h5
  have hpl:pre.length + (putB gk).length=(putB n).length:=by rw [← hpre,List.length_append]
  have hpos:=putB_pos gk
  have hl:=HL.out
  have H5:=Lib.hid h5
  have HPRE:=Lib.hid hpre
  have q1:pre.length + 1 ≤ maxLen:=by unfold maxLen;omega
  have q2:(pre.length + 1) * 1 ≤ 140737488355328:=by omega
  have hwb:=wrap_byte gk
  have szk:=hk.size
  clear h5 hpre hl hpos hpl
  have szA:∀ o,w.heap.size ≤ (wr.alloc o).heap.size:=fun o=>by rw [World.size_alloc];omega
  by_cases hlt:gk < 128
  ·have HEND:=Lib.hid (put_end HPRE.out hlt)
   have hwr:IntKind.u8.wrap (gk:Int)=(gk:Int):=by rw [hwb,Nat.mod_eq_of_lt (by omega)]
   go_upto_region 5 with fail
   refine wp_region_lit ?_
   refine wpList_ok rfl rfl ?_
   refine wpList_ok rfl rfl ?_
   refine wpList_ok (v:=.int .u8 (gk:Int)) (w':=wr) rfl (by simp [execOp,go_sem,hwr]) ?_
   refine wpList_ok (v:=.slice (some ⟨wr.heap.size,0,none⟩) 1 1) (w':=wr.alloc (.cells #[.int .u8 (gk:Int)] 5)) rfl (by simp [execOp,go_sem]) ?_
   refine wpList_append_fresh rfl _ _ 24 rfl w.heap.size 5 i5 (.int .u8 0) 1 1 Tryz.underlying24 hi5 hz50 hz51 hz52 rfl (by decide) (.slice a5 pre.length cap5) pre.length (byteVs pre) rfl (Keeps.owns (show Keeps wr _ by (exact kp)) H5.out) ⟨wr.heap.size,0,none⟩ 1 1 [.int .u8 (gk:Int)] rfl rfl (cell_new _ _ _ _ (by simp)) (by intro u hu;rw [List.mem_singleton] at hu;subst hu;rfl) (by exact q1) (by exact q2) (by simp;omega) ?_
   intro v3 w8 hown3 hg3 hfresh
   go_wp2_with fail
   go_ret
   refine ⟨v3,rfl,?_,hk.new (F:=fun k=>(Value.slice a5 pre.length cap5).ownBlock=some k) (Upd.grown (by repeat (first | exact Upd.refl _ _ | refine Upd.alloc ?_ _ | refine Upd.drew ?_)) hg3 (fun k hk=>.inl hk)) (fun k hk2=>row_from H5.out hk2)⟩
   rw [← HEND.out,byteVs_append,List.length_append]
   exact hown3
  ·have HSTEP:=Lib.hid (put_step HPRE.out hlt)
   have hob:=or_byte gk
   have hdiv:(gk:Int) / 128=((gk / 128:Nat):Int):=by omega
   have h64:gk / 128 < 2 ^ 64:=by omega
   have HDIV:=Lib.hid hdiv
   clear hdiv
   go_upto_region 3 with fail
   refine wp_region_lit ?_
   refine wpList_ok rfl rfl ?_
   refine wpList_ok rfl rfl ?_
   refine wpList_ok (v:=.int .u8 ((gk % 256:Nat):Int)) (w':=wr) rfl (by simp only [execOp,go_sem,hwb];simp [go_sem,hwb]) ?_
   refine wpList_ok (v:=.int .u8 ((gk % 128 + 128:Nat):Int)) (w':=wr) rfl (by rw [← hob];simp [execOp,go_sem]) ?_
   refine wpList_ok (v:=.slice (some ⟨wr.heap.size,0,none⟩) 1 1) (w':=wr.alloc (.cells #[.int .u8 ((gk % 128 + 128:Nat):Int)] 5)) rfl (by simp [execOp,go_sem]) ?_
   refine wpList_append_fresh rfl _ _ 24 rfl w.heap.size 5 i5 (.int .u8 0) 1 1 Tryz.underlying24 hi5 hz50 hz51 hz52 rfl (by decide) (.slice a5 pre.length cap5) pre.length (byteVs pre) rfl (Keeps.owns (show Keeps wr _ by (exact kp)) H5.out) ⟨wr.heap.size,0,none⟩ 1 1 [.int .u8 ((gk % 128 + 128:Nat):Int)] rfl rfl (cell_new _ _ _ _ (by simp)) (by intro u hu;rw [List.mem_singleton] at hu;subst hu;rfl) (by exact q1) (by exact q2) (by simp;omega) ?_
   intro v3 w8 hown3 hg3 hfresh
   go_wp2_with fail
   go_roundg (gk / 128)
   case rel=>
    exact ⟨pre ++ [((gk % 128 + 128:Nat):Int)],v3,rfl,by rw [← HDIV.out],h64,HSTEP.out,by rw [byteVs_append,List.length_append];exact hown3,hk.new (F:=fun k=>(Value.slice a5 pre.length cap5).ownBlock=some k) (Upd.grown (by repeat (first | exact Upd.refl _ _ | refine Upd.alloc ?_ _ | refine Upd.drew ?_)) hg3 (fun k hk=>.inl hk)) (fun k hk2=>row_from H5.out hk2)⟩
   case measure=>omega

theorem perm_of_sub:∀ (R ps:List Int),R.Nodup → (∀ x ∈ R,x ∈ ps) → ps.length ≤ R.length → ps.Perm R:=by
 intro R
 induction R with
 | nil=>
  intro ps _ _ hl
  rw [List.length_nil,Nat.le_zero,List.length_eq_zero_iff] at hl
  rw [hl]
 | cons x R ih=>
  intro ps hn hs hl
  rw [List.nodup_cons] at hn
  have hx:=hs x (by simp)
  have hp:=List.perm_cons_erase hx
  refine hp.trans (List.Perm.cons x (ih _ hn.2 (fun y hy=>?_) ?_))
  ·have hyx:y ≠ x:=fun e=>hn.1 (e ▸ hy)
   exact (List.mem_erase_of_ne hyx).2 (hs y (by simp [hy]))
  ·have:=hp.length_eq
   simp at this hl
   omega

def numsI (n:Nat):List Int:=(List.range n).map (fun i:Nat=>(i:Int))

theorem numsI_len (n:Nat):(numsI n).length=n:=by unfold numsI;simp

theorem mem_numsI {n:Nat} {x:Int}:x ∈ numsI n ↔ 0 ≤ x ∧ x < (n:Int):=by
 unfold numsI
 rw [List.mem_map]
 constructor
 ·rintro ⟨a,ha,rfl⟩
  rw [List.mem_range] at ha
  omega
 ·intro h
  exact ⟨x.toNat,by rw [List.mem_range];omega,by omega⟩

theorem nodup_numsI (n:Nat):(numsI n).Nodup:=by
 unfold numsI
 exact List.Pairwise.map _ (fun a b (h:a ≠ b) e=>h (by omega)) List.nodup_range

theorem permB_perm {ps:List Int}:permB ps=true ↔ (ps.length ≤ 16 ∧ ps.Perm (numsI ps.length)):=by
 rw [permB_iff]
 constructor
 ·rintro ⟨h1,h2,h3⟩
  exact ⟨h1,(perm_of_sub ps (numsI ps.length) h3 (fun x hx=>mem_numsI.2 (h2 x hx)) (by rw [numsI_len];omega)).symm⟩
 ·rintro ⟨h1,h2⟩
  exact ⟨h1,fun x hx=>mem_numsI.1 (h2.mem_iff.1 hx),h2.nodup_iff.2 (nodup_numsI _)⟩

theorem permB_count {ps:List Int} (h16:ps.length ≤ 16):permB ps=true ↔ ∀ i:Nat,i < ps.length → ps.count (i:Int)=1:=by
 rw [permB_perm]
 constructor
 ·rintro ⟨_,h⟩ i hi
  rw [h.count_eq,(nodup_numsI _).count,if_pos (mem_numsI.2 (by omega))]
 ·intro h
  refine ⟨h16,perm_of_sub _ _ (nodup_numsI _) (fun x hx=>?_) (by rw [numsI_len];omega)⟩
  obtain ⟨h0,h1⟩:=mem_numsI.1 hx
  have:=h x.toNat (by omega)
  rw [show ((x.toNat:Nat):Int)=x by omega] at this
  exact List.count_pos_iff.1 (by omega)

set_option maxRecDepth 100000 in
theorem refRight_calls (a:Option Addr) (cap:Nat) (ps:List Int) (w:World) (h:IntsAt w a ps) (hl:ps.length ≤ 16) :
  Calls Tryz.prog 14 #[.slice a ps.length cap] w fun e w'=>e=.returned (.bool (permB ps)) ∧ w=w':=by
 have hcnt:=permB_count hl
 obtain ⟨N,hN⟩:∃ N,N=ps.length:=⟨_,rfl⟩
 rw [← hN] at hl hcnt ⊢
 have H:=Lib.hid h
 have HN:=Lib.hid hN
 have HC:=Lib.hid hcnt
 clear h hN hcnt
 go_enter Tryz.func14,Tryz.ntmps14
 go_wp2
 go_loopg [3,4,5] N (fun gk s3 s4 s5 wr=>∃ (d:Nat),s3=.int .i64 (d:Int) ∧ d + gk=N ∧ (∀ i:Nat,i < d → ps.count (i:Int)=1) ∧ w=wr)
 case atStart=>exact ⟨0,rfl,by omega,fun i hi=>by omega,rfl⟩
 case round=>
  obtain ⟨d,rfl,hd,hall,rfl⟩:=hrel
  have HALL:=Lib.hid hall
  obtain ⟨g0,hg0⟩:∃ g,g=gk:=⟨_,rfl⟩
  have HG0:=Lib.hid hg0
  clear hall hg0
  by_cases hlt:d < N
  ·go_wp2_with fail
   go_loopg [4,5] N (fun gk s4 s5 wi=>∃ (j c:Nat),s5=.int .i64 (j:Int) ∧ s4=.int .i64 (c:Int) ∧ j + gk=N ∧ c=(ps.take j).count (d:Int) ∧ c ≤ j ∧ w=wi)
   case atStart=>exact ⟨0,0,rfl,rfl,by omega,by simp,by omega,rfl⟩
   case round=>
    obtain ⟨j,c,rfl,rfl,hj,hcc,hcj,rfl⟩:=hrel
    have HCC:=Lib.hid hcc
    clear hcc
    by_cases hjl:j < N
    ·obtain ⟨x,hx⟩:∃ b,ps[j]?=some b:=⟨_,List.getElem?_eq_getElem (by rw [← HN.out];exact hjl)⟩
     obtain ⟨b,off,rfl,hc⟩:=H.out j x hx
     have ht:=take_snoc hx
     have HT:=Lib.hid ht
     clear hx ht
     by_cases hxd:x=(d:Int)
     ·subst hxd
      go_wp2_with fail
      go_roundg (gk - 1)
      case rel=>exact ⟨j + 1,c + 1,by simp,by simp,by omega,by rw [HT.out,List.count_append,HCC.out];simp,by omega,rfl⟩
      case measure=>omega
     ·go_wp2_with fail
      go_roundg (gk - 1)
      case rel=>exact ⟨j + 1,c,by simp,rfl,by omega,by rw [HT.out,List.count_append,HCC.out];simp [hxd],by omega,rfl⟩
      case measure=>omega
    ·have hcp:c=ps.count (d:Int):=by
      rw [HCC.out,List.take_of_length_le (by rw [← HN.out];omega)]
     have HCP:=Lib.hid hcp
     clear hcp
     by_cases h1:c=1
     ·subst h1
      have hall:∀ i:Nat,i < d + 1 → ps.count (i:Int)=1:=fun i hi=>by
       by_cases e:i=d
       ·subst e;exact HCP.out.symm
       ·exact HALL.out i (by omega)
      have HALL2:=Lib.hid hall
      clear hall
      go_wp2_with fail
      go_roundg (g0 - 1)
      case rel=>exact ⟨d + 1,by simp,by have:=HG0.out;omega,HALL2.out,rfl⟩
      case measure=>have:=HG0.out;omega
     ·have hf:permB ps=false:=by
       cases hb:permB ps with
       | false=>rfl
       | true=>have:=HC.out.1 hb d hlt;have:=HCP.out;omega
      have HF:=Lib.hid hf
      have g1:((c:Int) != 1)=true:=by simp;omega
      clear hf
      go_wp2_with fail
      go_ret
      exact ⟨by rw [HF.out];rfl,rfl⟩
  ·have ht:permB ps=true:=HC.out.2 (fun i hi=>HALL.out i (by omega))
   have HT:=Lib.hid ht
   clear ht
   go_wp2_with fail
   go_ret
   exact ⟨by rw [HT.out];simp;omega,rfl⟩

set_option maxRecDepth 100000 in
theorem refSame_calls (a b:Option Addr) (cap cap2:Nat) (ps qs:List Int) (w:World) (h1:IntsAt w a ps) (h2:IntsAt w b qs) (hl1:ps.length ≤ 1048576) (hl2:qs.length ≤ 1048576) :
  Calls Tryz.prog 13 #[.slice a ps.length cap,.slice b qs.length cap2] w fun e w'=>e=.returned (.bool (decide (ps=qs))) ∧ Keeps w w':=by
 by_cases hne:ps.length=qs.length
 ·obtain ⟨N,hN⟩:∃ N,N=ps.length:=⟨_,rfl⟩
  have hM:N=qs.length:=hN.trans hne
  rw [← hM,← hN]
  rw [← hN] at hl1
  have H1:=Lib.hid h1
  have H2:=Lib.hid h2
  have HN:=Lib.hid hN
  have HM:=Lib.hid hM
  clear h1 h2 hN hM hne hl2
  go_enter Tryz.func13,Tryz.ntmps13
  go_wp2
  go_loopg [5] N (fun gk s5 wr=>∃ d:Nat,s5=.int .i64 (d:Int) ∧ d + gk=N ∧ (∀ i,i < d → ps[i]?=qs[i]?) ∧ Keeps w wr)
  case atStart=>exact ⟨0,rfl,by omega,fun i hi=>by omega,by (exact kp)⟩
  case round=>
   obtain ⟨d,rfl,hd,hn,hk⟩:=hrel
   have HNN:=Lib.hid hn
   clear hn
   by_cases hlt:d < N
   ·obtain ⟨x,hx⟩:∃ b,ps[d]?=some b:=⟨_,List.getElem?_eq_getElem (by rw [← HN.out];exact hlt)⟩
    obtain ⟨y,hy⟩:∃ b,qs[d]?=some b:=⟨_,List.getElem?_eq_getElem (by rw [← HM.out];exact hlt)⟩
    obtain ⟨b1,o1,rfl,c0⟩:=H1.out d x hx
    obtain ⟨b2,o2,rfl,c1⟩:=H2.out d y hy
    replace c0:=hk.cell c0
    replace c1:=hk.cell c1
    have HX:=Lib.hid hx
    have HY:=Lib.hid hy
    have i0:(0:Int) ≤ (d:Int):=by omega
    have i1:(d:Int) < (N:Int):=by omega
    clear hx hy
    by_cases hab:x=y
    ·subst hab
     go_wp2_with fail
     go_quiet (fail)
     go_wp2
     go_roundg (gk - 1)
     case rel=>
      refine ⟨d + 1,by simp,by omega,fun i hi=>?_,by (exact kp)⟩
      by_cases e:i=d
      ·subst e;rw [HX.out,HY.out]
      ·exact HNN.out i (by omega)
     case measure=>omega
    ·have gab:(x != y)=true:=by simp [hab]
     have hf:Hid (¬ ps=qs):=Lib.hid (fun e=>by have:=HX.out;rw [e,HY.out] at this;exact hab (Option.some.inj this).symm)
     go_wp2_with fail
     go_quiet (fail)
     go_wp2
     go_ret
     exact ⟨by rw [decide_eq_false hf.out];rfl,by (exact kp)⟩
   ·have hg0:d=N:=by omega
    have hh:ps=qs:=by
     apply List.ext_getElem?
     intro i
     by_cases hi:i < d
     ·exact HNN.out i hi
     ·rw [List.getElem?_eq_none (by rw [← HN.out];omega),List.getElem?_eq_none (by rw [← HM.out];omega)]
    have HH:=Lib.hid hh
    clear hg0 hh
    go_wp2_with fail
    go_ret
    exact ⟨by rw [decide_eq_true HH.out];rfl,hk⟩
 ·have hf:decide (ps=qs)=false:=decide_eq_false (fun e=>hne (by rw [e]))
  obtain ⟨N,hN⟩:∃ N,N=ps.length:=⟨_,rfl⟩
  obtain ⟨K,hK⟩:∃ K,K=qs.length:=⟨_,rfl⟩
  rw [hf]
  rw [← hN,← hK] at hne ⊢
  have gne:((N:Int) != (K:Int))=true:=by simp;omega
  clear h1 h2 hl1 hl2 hN hK hf hne
  go_enter Tryz.func13,Tryz.ntmps13
  go_wp2
  go_ret
  exact ⟨rfl,by (exact kp)⟩

end Go.Proofs.YtfpjogpjocedaaaGreat
