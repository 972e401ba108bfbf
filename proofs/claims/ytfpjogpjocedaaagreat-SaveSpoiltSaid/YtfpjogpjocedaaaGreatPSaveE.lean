/-
  save.pen.edge: an edge by its node's number.
-/
import Derived.Test.YtfpjogpjocedaaaGreatPTwoBase
namespace Go.Proofs.YtfpjogpjocedaaaGreat
set_option linter.unusedSimpArgs false
set_option linter.unusedVariables false
set_option maxHeartbeats 600000
open Go Go.RowKit

set_option maxRecDepth 100000 in
set_option maxHeartbeats 400000 in
theorem pen_edge_low {base:Nat} {w:World} {pb mb:Nat} {f:Int} {c0:Value} {S bs:List Int} (h:Pen base w pb c0 (.int .u8 f) (.map (some mb)) bs) (t k:Nat) (ht:t ≤ 255) (hk:k ≤ 4294967295) (hl:bs.length ≤ 900000000) (gl:((k:Int) < 2)) (hf:f ≠ 5 ∨ ¬ 0 < (k:Int)) :
  Calls Tryz.prog 105 #[.pointer (some ⟨pb,0,none⟩),.agg #[.int .u8 (t:Int),.int .u32 (k:Int)]] w fun r w'=>r=.returned (.tuple #[]) ∧ Pen base w' pb c0 (.int .u8 f) (.map (some mb)) (bs ++ edgeB f S ⟨t,k⟩) ∧ Upd (PF w base pb none) w w':=by
 have HP:=Lib.hid h
 obtain ⟨⟨v,h1,h2⟩,h3⟩:=h
 have hpw:=lt_of_heap h1
 have e1:=HP.out.cell.2.1
 have e3:=HP.out.cell.2.2
 have HLK:=Lib.hid (putB_len10 (n:=k) (by omega))
 have HE:Hid (edgeB f S ⟨t,(k:Int)⟩=putB k):=Lib.hid (by unfold edgeB;rw [if_pos gl,if_neg (fun hh=>by have q:=hh.2;rcases hf with hf | hf;exact hf hh.1;exact hf q)];simp)
 clear h1 h2
 by_cases h5:f=5
 ·subst h5
  have gz:¬ (0 < k):=by omega
  clear hf
  go_enter Tryz.func105,Tryz.ntmps105
  go_wp2_with (first | (go_at_call 106;refine (pen_num (HP.out.keeps (by (exact kp))) k (by omega) (by omega)).mono ?_;rintro e w1 ⟨rfl,hp1,hu1⟩;have x1:=hp1.cell.2.1;have x3:=hp1.cell.2.2;have z0:w1.cell? ⟨w.heap.size,0,none⟩=some (.int .u8 (t:Int)):=hu1.pen_other (heap_alloc_new w _) (by decide) (by omega) (by simp) (by simp);have z1:w1.cell? ⟨w.heap.size,1,none⟩=some (.int .u32 (k:Int)):=hu1.pen_other (heap_alloc_new w _) (by decide) (by omega) (by simp) (by simp);have HP1:=Lib.hid hp1;have HU1:=Lib.hid ((show Upd (PF w base pb none) w _ from ((Keeps.refl w).alloc _).upd _).pens hu1);clear hp1 hu1 HP;go_wp2_with fail;(first | go_end0 | refine bodyPost_ret (results_none rfl _ _ _) rfl ?_);exact ⟨rfl,by rw [HE.out];exact HP1.out,HU1.out⟩) | fail)
 ·have g5:(f == 5)=false:=by simp [h5]
  clear hf h5
  go_enter Tryz.func105,Tryz.ntmps105
  go_wp2_with (first | (go_at_call 106;refine (pen_num (HP.out.keeps (by (exact kp))) k (by omega) (by omega)).mono ?_;rintro e w1 ⟨rfl,hp1,hu1⟩;have x1:=hp1.cell.2.1;have x3:=hp1.cell.2.2;have z0:w1.cell? ⟨w.heap.size,0,none⟩=some (.int .u8 (t:Int)):=hu1.pen_other (heap_alloc_new w _) (by decide) (by omega) (by simp) (by simp);have z1:w1.cell? ⟨w.heap.size,1,none⟩=some (.int .u32 (k:Int)):=hu1.pen_other (heap_alloc_new w _) (by decide) (by omega) (by simp) (by simp);have HP1:=Lib.hid hp1;have HU1:=Lib.hid ((show Upd (PF w base pb none) w _ from ((Keeps.refl w).alloc _).upd _).pens hu1);clear hp1 hu1 HP;go_wp2_with fail;(first | go_end0 | refine bodyPost_ret (results_none rfl _ _ _) rfl ?_);exact ⟨rfl,by rw [HE.out];exact HP1.out,HU1.out⟩) | fail)

set_option maxRecDepth 100000 in
set_option maxHeartbeats 400000 in
theorem pen_edge_lt {base:Nat} {w:World} {pb mb:Nat} {c0:Value} {S bs:List Int} (h:Pen base w pb c0 (.int .u8 5) (.map (some mb)) bs) (t k:Nat) (ht:t ≤ 255) (hk:k ≤ 4294967295) (hl:bs.length ≤ 900000000) (gl:((k:Int) < 2)) (gp:(0 < (k:Int))) :
  Calls Tryz.prog 105 #[.pointer (some ⟨pb,0,none⟩),.agg #[.int .u8 (t:Int),.int .u32 (k:Int)]] w fun r w'=>r=.returned (.tuple #[]) ∧ Pen base w' pb c0 (.int .u8 5) (.map (some mb)) (bs ++ edgeB 5 S ⟨t,k⟩) ∧ Upd (PF w base pb none) w w':=by
 have HP:=Lib.hid h
 obtain ⟨⟨v,h1,h2⟩,h3⟩:=h
 have hpw:=lt_of_heap h1
 have e1:=HP.out.cell.2.1
 have e3:=HP.out.cell.2.2
 have gp2:0 < k:=by omega
 have HLK:=Lib.hid (putB_len10 (n:=k) (by omega))
 have HE:Hid (edgeB 5 S ⟨t,(k:Int)⟩=putB k ++ putB t):=Lib.hid (by unfold edgeB;rw [if_pos gl,if_pos ⟨rfl,gp⟩];simp)
 clear h1 h2
 go_enter Tryz.func105,Tryz.ntmps105
 go_wp2_with (first | (go_at_call 106;refine (pen_num (HP.out.keeps (by (exact kp))) k (by omega) (by omega)).mono ?_;rintro e w1 ⟨rfl,hp1,hu1⟩;have x1:=hp1.cell.2.1;have x3:=hp1.cell.2.2;have z0:w1.cell? ⟨w.heap.size,0,none⟩=some (.int .u8 (t:Int)):=hu1.pen_other (heap_alloc_new w _) (by decide) (by omega) (by simp) (by simp);have z1:w1.cell? ⟨w.heap.size,1,none⟩=some (.int .u32 (k:Int)):=hu1.pen_other (heap_alloc_new w _) (by decide) (by omega) (by simp) (by simp);have HP1:=Lib.hid hp1;have HU1:=Lib.hid ((show Upd (PF w base pb none) w _ from ((Keeps.refl w).alloc _).upd _).pens hu1);clear hp1 hu1 HP;go_wp2_with (first | (go_at_call 106;refine (pen_num (HP1.out.keeps (by (exact kp))) t (by omega) (by simp only [List.length_append];have:=HLK.out;omega)).mono ?_;rintro e w2 ⟨rfl,hp2,hu2⟩;have HP2:=Lib.hid hp2;have HU2:=Lib.hid (HU1.out.pens hu2);clear hp2 hu2;go_wp2_with fail;(first | go_end0 | refine bodyPost_ret (results_none rfl _ _ _) rfl ?_);exact ⟨rfl,by rw [HE.out,← List.append_assoc];exact HP2.out,HU2.out⟩) | fail)) | fail)

theorem zero_u64 (w:World):(zeroValue 60).run Tryz.prog w=.ok (.int .u64 0) w:=by kernel_rfl

set_option maxRecDepth 100000 in
set_option maxHeartbeats 400000 in
theorem pen_edge_high {base:Nat} {w:World} {pb mb:Nat} {f:Int} {c0:Value} {S bs:List Int} (h:Pen base w pb c0 (.int .u8 f) (.map (some mb)) bs) (hm:PenMap w mb S) (t k:Nat) (ht:t ≤ 255) (hk:k ≤ 4294967295) (hl:bs.length ≤ 900000000) (gl:¬ ((k:Int) < 2)) (hin:(k:Int) ∈ S) (hS:S.length ≤ 1048576) :
  Calls Tryz.prog 105 #[.pointer (some ⟨pb,0,none⟩),.agg #[.int .u8 (t:Int),.int .u32 (k:Int)]] w fun r w'=>r=.returned (.tuple #[]) ∧ Pen base w' pb c0 (.int .u8 f) (.map (some mb)) (bs ++ edgeB f S ⟨t,k⟩) ∧ Upd (PF w base pb none) w w':=by
 have HP:=Lib.hid h
 have HM:=Lib.hid hm
 obtain ⟨⟨v,h1,h2⟩,h3⟩:=h
 have hpw:=lt_of_heap h1
 have e1:=HP.out.cell.2.1
 have e3:=HP.out.cell.2.2
 have hwf:(Lit.int .u32 (k:Int)).wf=true:=by simp [Lit.wf,show IntKind.u32.min=0 from rfl,show IntKind.u32.max=4294967295 from rfl];omega
 have hkey:=Maps.keyOf_int_mk Tryz.underlying35 hwf
 obtain ⟨n,hn⟩:∃ n,n=S.idxOf (k:Int):=⟨_,rfl⟩
 have hn2:n + 2 ≤ 1048578:=by have:=List.idxOf_le_length (l:=S) (a:=(k:Int));omega
 have HLK:=Lib.hid (putB_len10 (n:=n + 2) (by omega))
 have HLOOK:=Lib.hid (fun (W:World) (hW:Keeps w W)=>by
  obtain ⟨D,q1,q2⟩:=HM.out.keeps hW
  obtain ⟨c,hrun,hat,-⟩:=q1.lookup_int (Maps.int_keyed Tryz.underlying35) Tryz.underlying163 Tryz.underlying60 (zero_u64 _) hkey
  rw [q2.vals _ hin,← hn] at hat
  cases hat
  exact hrun)
 have HN:=Lib.hid hn
 have hwr:IntKind.u64.wrap ((n:Int) + 2)=((n + 2:Nat):Int):=by unfold IntKind.wrap;simp [IntKind.signed,IntKind.bits];omega
 clear h1 h2 hn hm
 by_cases h5:f=5
 ·subst h5
  have gp2:0 < k:=by omega
  have HE:Hid (edgeB 5 S ⟨t,(k:Int)⟩=putB (n + 2) ++ putB t):=Lib.hid (by unfold edgeB;rw [if_neg gl,if_pos ⟨rfl,by show 0 < (k:Int);omega⟩,HN.out];rfl)
  go_enter Tryz.func105,Tryz.ntmps105
  go_upto_region 3 with fail
  have hq:=HLOOK.out (w.alloc (.cells #[.int .u8 (t:Int),.int .u32 (k:Int)] 37)).drew (by (exact kp))
  refine wp_region_head 9 #[true,true,true,true,true,true,true,true,true,false] (by kernel_rfl) (by kernel_rfl) ?_
  simp only [List.take_succ_cons,List.take_zero,List.drop_succ_cons,List.drop_zero]
  repeat still_step
  refine wpStill_nil ?_
  refine wpAny_ready (fuel:=0) (rs:=[9]) (by kernel_rfl) (by decide) (AllReady.cons rfl (fun K hK=>?_) AllReady.nil)
  go_simp
  refine (pen_num (HP.out.keeps (by (exact kp))) (n + 2) (by omega) (by omega)).mono ?_
  rintro e w1 ⟨rfl,hp1,hu1⟩
  have x1:=hp1.cell.2.1
  have x3:=hp1.cell.2.2
  have z0:w1.cell? ⟨w.heap.size,0,none⟩=some (.int .u8 (t:Int)):=hu1.pen_other (heap_alloc_new w _) (by decide) (by omega) (by simp) (by simp)
  have z1:w1.cell? ⟨w.heap.size,1,none⟩=some (.int .u32 (k:Int)):=hu1.pen_other (heap_alloc_new w _) (by decide) (by omega) (by simp) (by simp)
  have HP1:=Lib.hid hp1
  have HU1:=Lib.hid ((show Upd (PF w base pb none) w _ from (((Keeps.refl w).alloc (.cells #[.int .u8 (t:Int),.int .u32 (k:Int)] 37)).drew).upd _).pens hu1)
  clear hp1 hu1 HP hq
  refine hK _ _ ?_
  clear hK K
  refine wpAny_done (by kernel_rfl) ?_ _
  go_wp2_with (first | (go_at_call 106;refine (pen_num (HP1.out.keeps (by (exact kp))) t (by omega) (by simp only [List.length_append];have:=HLK.out;omega)).mono ?_;rintro e w2 ⟨rfl,hp2,hu2⟩;have HP2:=Lib.hid hp2;have HU2:=Lib.hid (HU1.out.pens hu2);clear hp2 hu2;go_wp2_with fail;(first | go_end0 | refine bodyPost_ret (results_none rfl _ _ _) rfl ?_);exact ⟨rfl,by rw [HE.out,← List.append_assoc];exact HP2.out,HU2.out⟩) | fail)
 ·have g5:(f == 5)=false:=by simp [h5]
  have HE:Hid (edgeB f S ⟨t,(k:Int)⟩=putB (n + 2)):=Lib.hid (by unfold edgeB;rw [if_neg gl,if_neg (fun hh=>h5 hh.1),HN.out,List.append_nil])
  clear h5
  go_enter Tryz.func105,Tryz.ntmps105
  go_upto_region 3 with fail
  have hq:=HLOOK.out (w.alloc (.cells #[.int .u8 (t:Int),.int .u32 (k:Int)] 37)).drew (by (exact kp))
  refine wp_region_head 9 #[true,true,true,true,true,true,true,true,true,false] (by kernel_rfl) (by kernel_rfl) ?_
  simp only [List.take_succ_cons,List.take_zero,List.drop_succ_cons,List.drop_zero]
  repeat still_step
  refine wpStill_nil ?_
  refine wpAny_ready (fuel:=0) (rs:=[9]) (by kernel_rfl) (by decide) (AllReady.cons rfl (fun K hK=>?_) AllReady.nil)
  go_simp
  refine (pen_num (HP.out.keeps (by (exact kp))) (n + 2) (by omega) (by omega)).mono ?_
  rintro e w1 ⟨rfl,hp1,hu1⟩
  have x1:=hp1.cell.2.1
  have x3:=hp1.cell.2.2
  have z0:w1.cell? ⟨w.heap.size,0,none⟩=some (.int .u8 (t:Int)):=hu1.pen_other (heap_alloc_new w _) (by decide) (by omega) (by simp) (by simp)
  have z1:w1.cell? ⟨w.heap.size,1,none⟩=some (.int .u32 (k:Int)):=hu1.pen_other (heap_alloc_new w _) (by decide) (by omega) (by simp) (by simp)
  have HP1:=Lib.hid hp1
  have HU1:=Lib.hid ((show Upd (PF w base pb none) w _ from (((Keeps.refl w).alloc (.cells #[.int .u8 (t:Int),.int .u32 (k:Int)] 37)).drew).upd _).pens hu1)
  clear hp1 hu1 HP hq
  refine hK _ _ ?_
  clear hK K
  refine wpAny_done (by kernel_rfl) ?_ _
  go_wp2_with fail
  first | go_end0 | refine bodyPost_ret (results_none rfl _ _ _) rfl ?_
  exact ⟨rfl,by rw [HE.out];exact HP1.out,HU1.out⟩

theorem pen_edge {base:Nat} {w:World} {pb mb:Nat} {f:Int} {c0:Value} {S bs:List Int} (h:Pen base w pb c0 (.int .u8 f) (.map (some mb)) bs) (hm:PenMap w mb S) (e:Edge) (he:e.ok) (hl:bs.length ≤ 900000000) (hin:e.to < 2 ∨ e.to ∈ S) (hS:S.length ≤ 1048576) :
  Calls Tryz.prog 105 #[.pointer (some ⟨pb,0,none⟩),.agg #[.int .u8 e.tag,.int .u32 e.to]] w fun r w'=>r=.returned (.tuple #[]) ∧ Pen base w' pb c0 (.int .u8 f) (.map (some mb)) (bs ++ edgeB f S e) ∧ Upd (PF w base pb none) w w':=by
 obtain ⟨t,k⟩:=e
 obtain ⟨⟨a1,a2⟩,b1,b2⟩:=he
 simp only [] at a1 a2 b1 b2 hin
 obtain ⟨t,rfl⟩:∃ n:Nat,t=(n:Int):=⟨t.toNat,by omega⟩
 obtain ⟨k,rfl⟩:∃ n:Nat,k=(n:Int):=⟨k.toNat,by omega⟩
 by_cases gl:(k:Int) < 2
 ·by_cases hc:f=5 ∧ 0 < (k:Int)
  ·obtain ⟨rfl,gp⟩:=hc
   exact pen_edge_lt h t k (by omega) (by omega) hl gl gp
  ·exact pen_edge_low h t k (by omega) (by omega) hl gl (by omega)
 ·exact pen_edge_high h hm t k (by omega) (by omega) hl gl (hin.resolve_left gl) hS

end Go.Proofs.YtfpjogpjocedaaaGreat
