/-
  wire.Put behind no bytes: a number's bytes, in a row of the call's own.
-/
import Derived.Test.YtiifimnpmbfihaaGreatPWireP
namespace Go.Proofs.YtiifimnpmbfihaaGreat
set_option linter.unusedSimpArgs false
set_option linter.unusedVariables false
set_option maxHeartbeats 600000
open Go.RowKit

theorem info_byte:(Tryz.prog.info? 5).map (fun i=>(i.zero,i.size,i.bytes))=some (some (.int .u8 0),1,1):=by kernel_rfl

set_option maxRecDepth 100000 in
theorem cloneB_nil (w:World):Calls Tryz.prog 285 #[.slice none 0 0] w fun e w'=>e=.returned (.slice none 0 0) ∧ w=w':=by
 have hnil:=fun (W:World)=>Lib.run_eql_slice_nil (P:=Tryz.prog) W 37 5 none 0 0 0 0 Tryz.underlying37
 go_enter Tryz.func285,Tryz.ntmps285
 go_wp2
 go_ret
 exact ⟨rfl,rfl⟩

theorem row_from {w:World} {base:Nat} {e:TypeId} {size:Nat} {v:Value} {n:Nat} {xs:List Value} (h:w.ownsRow base e size v n xs) {k:Nat} (hk:v.ownBlock=some k):base ≤ k:=by
 rcases h.2 with ⟨e0,_⟩ | ⟨g',cap',cur,e0,hbg,_⟩
 ·rw [e0] at hk;simp [Value.ownBlock] at hk
 ·rw [e0] at hk;simp [Value.ownBlock] at hk;omega

theorem wpList_ok {P:Program} {ops:Array Oper} {rest:List Oper} {o:Oper} {a:Act} {w w':World} {Q:Exit → Act → World → Prop} {v:Value} (hg:o.guard=none) (hr:(execOp a.eval o).run P w=.ok (.value v) w') (h:wpList P ops Q rest (a.put o.dst v) w'):wpList P ops Q (o :: rest) a w:=
 wpList_plain hg fun K hK=>by
  unfold Oper.wp
  rw [hr]
  exact hK _ _ h

theorem put_step {pre:List Int} {m n:Nat} (h:pre ++ putB m=putB n) (hm:¬ m < 128):(pre ++ [((m % 128 + 128:Nat):Int)]) ++ putB (m / 128)=putB n:=by
 rw [← h,putB_more hm,List.append_assoc]
 rfl

theorem put_end {pre:List Int} {m n:Nat} (h:pre ++ putB m=putB n) (hm:m < 128):pre ++ [(m:Int)]=putB n:=by
 rw [← h,putB_low hm]

set_option maxRecDepth 100000 in
set_option maxHeartbeats 2000000 in
theorem wirePut_calls (n:Nat) (hn:n < 2 ^ 64) (w:World) :
  Calls Tryz.prog 243 #[.slice none 0 0,.int .u64 (n:Int)] w fun e w'=>∃ v,e=.returned v ∧ w'.ownsRow w.heap.size 5 1 v (putB n).length (byteVs (putB n)) ∧ Keeps w w':=by
 have HL:=Lib.hid (putB_len10 hn)
 obtain ⟨i5,hi5,hz50,hz51,hz52⟩:=info_parts info_byte
 have HN:=Lib.hid hn
 clear hn
 go_enter Tryz.func243,Tryz.ntmps243
 go_wp2_with (first | (go_at_call 285;refine (cloneB_nil _).mono ?_;rintro e w1 ⟨rfl,rfl⟩) | fail)
 go_loopg [0,1] n (fun gk s0 s1 wr=>∃ (pre:List Int) (v:Value),s0=v ∧ s1=.int .u64 (gk:Int) ∧ gk < 2 ^ 64 ∧ pre ++ putB gk=putB n ∧ wr.ownsRow w.heap.size 5 1 v pre.length (byteVs pre) ∧ Keeps w wr)
 case atStart=>exact ⟨[],_,rfl,rfl,HN.out,rfl,World.ownsRow_nil _ _ _ _,by (exact kp)⟩
 case round=>
  obtain ⟨pre,v,rfl,rfl,hm,hpre,h5,hk⟩:=hrel
  obtain ⟨a5,cap5,rfl,-⟩:=owns_slice h5
  have hpl:pre.length + (putB gk).length=(putB n).length:=by rw [← hpre,List.length_append]
  have hpos:=putB_pos gk
  have hl:=HL.out
  have H5:=Lib.hid h5
  have HPRE:=Lib.hid hpre
  have q1:pre.length + 1 ≤ maxLen:=by unfold maxLen;omega
  have q2:(pre.length + 1) * 1 ≤ 140737488355328:=by omega
  have hwb:=wrap_byte gk
  have szk:=hk.size
  clear h5 hpre hl hpos hpl
  have szA:∀ o,w.heap.size ≤ (wr.alloc o).heap.size:=fun o=>by rw [World.size_alloc];omega
  by_cases hlt:gk < 128
  ·have HEND:=Lib.hid (put_end HPRE.out hlt)
   have hwr:IntKind.u8.wrap (gk:Int)=(gk:Int):=by rw [hwb,Nat.mod_eq_of_lt (by omega)]
   go_upto_region 5 with fail
   refine wp_region_lit ?_
   refine wpList_ok rfl rfl ?_
   refine wpList_ok rfl rfl ?_
   refine wpList_ok (v:=.int .u8 (gk:Int)) (w':=wr) rfl (by simp [execOp,go_sem,hwr]) ?_
   refine wpList_ok (v:=.slice (some ⟨wr.heap.size,0,none⟩) 1 1) (w':=wr.alloc (.cells #[.int .u8 (gk:Int)] 5)) rfl (by simp [execOp,go_sem]) ?_
   refine wpList_append_fresh rfl _ _ 37 rfl w.heap.size 5 i5 (.int .u8 0) 1 1 Tryz.underlying37 hi5 hz50 hz51 hz52 rfl (by decide) (.slice a5 pre.length cap5) pre.length (byteVs pre) rfl (Keeps.owns (show Keeps wr _ by (exact kp)) H5.out) ⟨wr.heap.size,0,none⟩ 1 1 [.int .u8 (gk:Int)] rfl rfl (cell_new _ _ _ _ (by simp)) (by intro u hu;rw [List.mem_singleton] at hu;subst hu;rfl) (by exact q1) (by exact q2) (by simp;omega) ?_
   intro v3 w8 hown3 hg3 hfresh
   go_wp2_with fail
   go_ret
   refine ⟨v3,rfl,?_,hk.new (F:=fun k=>(Value.slice a5 pre.length cap5).ownBlock=some k) (Upd.grown (by repeat (first | exact Upd.refl _ _ | refine Upd.alloc ?_ _ | refine Upd.drew ?_)) hg3 (fun k hk=>.inl hk)) (fun k hk2=>row_from H5.out hk2)⟩
   rw [← HEND.out,byteVs_append,List.length_append]
   exact hown3
  ·have HSTEP:=Lib.hid (put_step HPRE.out hlt)
   have hob:=or_byte gk
   have hdiv:(gk:Int) / 128=((gk / 128:Nat):Int):=by omega
   have h64:gk / 128 < 2 ^ 64:=by omega
   have HDIV:=Lib.hid hdiv
   clear hdiv
   go_upto_region 3 with fail
   refine wp_region_lit ?_
   refine wpList_ok rfl rfl ?_
   refine wpList_ok rfl rfl ?_
   refine wpList_ok (v:=.int .u8 ((gk % 256:Nat):Int)) (w':=wr) rfl (by simp only [execOp,go_sem,hwb];simp [go_sem,hwb]) ?_
   refine wpList_ok (v:=.int .u8 ((gk % 128 + 128:Nat):Int)) (w':=wr) rfl (by rw [← hob];simp [execOp,go_sem]) ?_
   refine wpList_ok (v:=.slice (some ⟨wr.heap.size,0,none⟩) 1 1) (w':=wr.alloc (.cells #[.int .u8 ((gk % 128 + 128:Nat):Int)] 5)) rfl (by simp [execOp,go_sem]) ?_
   refine wpList_append_fresh rfl _ _ 37 rfl w.heap.size 5 i5 (.int .u8 0) 1 1 Tryz.underlying37 hi5 hz50 hz51 hz52 rfl (by decide) (.slice a5 pre.length cap5) pre.length (byteVs pre) rfl (Keeps.owns (show Keeps wr _ by (exact kp)) H5.out) ⟨wr.heap.size,0,none⟩ 1 1 [.int .u8 ((gk % 128 + 128:Nat):Int)] rfl rfl (cell_new _ _ _ _ (by simp)) (by intro u hu;rw [List.mem_singleton] at hu;subst hu;rfl) (by exact q1) (by exact q2) (by simp;omega) ?_
   intro v3 w8 hown3 hg3 hfresh
   go_wp2_with fail
   go_roundg (gk / 128)
   case rel=>
    exact ⟨pre ++ [((gk % 128 + 128:Nat):Int)],v3,rfl,by rw [← HDIV.out],h64,HSTEP.out,by rw [byteVs_append,List.length_append];exact hown3,hk.new (F:=fun k=>(Value.slice a5 pre.length cap5).ownBlock=some k) (Upd.grown (by repeat (first | exact Upd.refl _ _ | refine Upd.alloc ?_ _ | refine Upd.drew ?_)) hg3 (fun k hk=>.inl hk)) (fun k hk2=>row_from H5.out hk2)⟩
   case measure=>omega

end Go.Proofs.YtiifimnpmbfihaaGreat
