/-
  ramageref21.Depth, Ways over the document's store.
-/
import Derived.Test.YtpgcbmbnognieaaGreatPSwapS
namespace Go.Proofs.YtpgcbmbnognieaaGreat
set_option linter.unusedSimpArgs false
set_option linter.unusedVariables false
set_option maxHeartbeats 600000
open Go.RowKit

variable {F:Nat → Prop} {mb:Nat} {M:St} {w:World} {L:List (Int × Rec)}

set_option maxRecDepth 100000 in
set_option maxHeartbeats 1000000 in
theorem rdepth_node (h:RefRep F w mb M L) (e:Edge) (he:e.ok) (r:Rec) (hk:look M.cs e.to=some r) (d0 d1 d:Int) (hd:d=1 + max d0 d1) (r0:0 ≤ d0 ∧ d0 ≤ 1000) (r1:0 ≤ d1 ∧ d1 ≤ 1000)
  (I0:∀ W,Keeps w W → Calls Tryz.prog 29 #[.pointer (some ⟨mb,0,none⟩),.agg #[.int .u8 r.lo.tag,.int .u32 r.lo.to]] W fun e' w'=>e'=.returned (.int .i64 d0) ∧ Keeps W w')
  (I1:∀ W,Keeps w W → Calls Tryz.prog 29 #[.pointer (some ⟨mb,0,none⟩),.agg #[.int .u8 r.hi.tag,.int .u32 r.hi.to]] W fun e' w'=>e'=.returned (.int .i64 d1) ∧ Keeps W w') :
  Calls Tryz.prog 29 #[.pointer (some ⟨mb,0,none⟩),.agg #[.int .u8 e.tag,.int .u32 e.to]] w fun e' w'=>e'=.returned (.int .i64 d) ∧ Keeps w w':=by
 obtain ⟨a,cap,c0,hc⟩:=h.cell
 have hle:=h.le
 have hat:=fun (W:World) (hW:Keeps w W)=>ref_at (h.keeps hW) e.to
 rcases atI_look h e.to with ⟨r',hl,D,hD,hDe,hlt,hDi⟩ | ⟨hl,-,-⟩
 ·rw [hk] at hl
  cases hl
  obtain ⟨lb,rfl,_,hv⟩:=hc (by omega)
  have q3:w.cell? ⟨lb,D * 8 + 4,none⟩=some (.int .u8 r.lo.tag):=(hv _ _ hD 4 (by decide)).trans rfl
  have q4:w.cell? ⟨lb,D * 8 + 5,none⟩=some (.int .u32 r.lo.to):=(hv _ _ hD 5 (by decide)).trans rfl
  have q5:w.cell? ⟨lb,D * 8 + 6,none⟩=some (.int .u8 r.hi.tag):=(hv _ _ hD 6 (by decide)).trans rfl
  have q6:w.cell? ⟨lb,D * 8 + 7,none⟩=some (.int .u32 r.hi.to):=(hv _ _ hD 7 (by decide)).trans rfl
  have hlb:lb < w.heap.size:=lt_of_cell q3
  have hmb:mb < w.heap.size:=lt_of_cell c0
  have hdl:(D:Int) < (L.length:Int):=by omega
  have t0:0 ≤ e.to:=he.2.1
  have t1:e.to ≤ 4294967295:=he.2.2
  obtain ⟨r00,r01⟩:=r0
  obtain ⟨r10,r11⟩:=r1
  rw [hDi] at hat
  have HA:=Lib.hid hat
  have HI0:=Lib.hid I0
  have HI1:=Lib.hid I1
  have HD:=Lib.hid hd
  clear hat hc hv hD hDe hDi hlt hk he hd I0 I1 h
  go_enter Tryz.func29,Tryz.ntmps29
  go_wp2_with (first | (go_at_call 89;refine (HA.out _ (by (exact kp))).mono ?_;rintro e2 w2 ⟨rfl,rfl⟩) | fail)
  obtain ⟨W1,hW1⟩:∃ W1,W1=w.alloc (.cells #[.int .u8 e.tag,.int .u32 e.to] 25):=⟨_,rfl⟩
  have kW1:Keeps w W1:=by rw [hW1];exact (Keeps.refl _).alloc _
  rw [← hW1]
  have c0:=kW1.cell c0
  have q3:=kW1.cell q3
  have q4:=kW1.cell q4
  have q5:=kW1.cell q5
  have q6:=kW1.cell q6
  clear hW1
  go_region_held3 (fun w'=>w'.cell? ⟨mb,0,none⟩=some (.slice (some ⟨lb,0,none⟩) L.length cap) ∧ w'.cell? ⟨lb,D * 8 + 4,none⟩=some (.int .u8 r.lo.tag) ∧ w'.cell? ⟨lb,D * 8 + 5,none⟩=some (.int .u32 r.lo.to) ∧ w'.cell? ⟨lb,D * 8 + 6,none⟩=some (.int .u8 r.hi.tag) ∧ w'.cell? ⟨lb,D * 8 + 7,none⟩=some (.int .u32 r.hi.to)) (go_keep) ((first
   | (go_at_call 29;have qq:=HI0;clear qq;refine (HI0.out _ (by (exact kp))).mono ?_;rintro e' w3 ⟨rfl,hk3⟩;have c0:=hk3.cell c0;have q3:=hk3.cell q3;have q4:=hk3.cell q4;have q5:=hk3.cell q5;have q6:=hk3.cell q6;clear HI0)
   | (go_at_call 29;refine (HI1.out _ (by (exact kp))).mono ?_;rintro e' w4 ⟨rfl,hk4⟩;have c0:=hk4.cell c0;have q3:=hk4.cell q3;have q4:=hk4.cell q4;have q5:=hk4.cell q5;have q6:=hk4.cell q6)))
  all_goals (try go_wp2_with fail)
  all_goals
   have hd:=HD.out
   have e0:IntKind.i64.wrap (1 + d0)=1 + d0:=by unfold IntKind.wrap;simp [IntKind.signed,IntKind.bits];omega
   have e1:IntKind.i64.wrap (1 + d1)=1 + d1:=by unfold IntKind.wrap;simp [IntKind.signed,IntKind.bits];omega
   go_ret
   refine ⟨?_,by (exact kp)⟩
  ·rw [show d=1 + d1 by omega]
   exact congrArg (fun z=>Ending.returned (Value.int .i64 z)) e1
  ·rw [show d=1 + d0 by omega]
   exact congrArg (fun z=>Ending.returned (Value.int .i64 z)) e0
 ·rw [hk] at hl
  cases hl

set_option maxRecDepth 100000 in
set_option maxHeartbeats 1000000 in
theorem rways_node (h:RefRep F w mb M L) (e:Edge) (he:e.ok) (r:Rec) (hk:look M.cs e.to=some r) (d0 d1 d:Int) (hd:d=d0 + d1) (r0:0 ≤ d0 ∧ d0 ≤ 1000000) (r1:0 ≤ d1 ∧ d1 ≤ 1000000)
  (I0:∀ W,Keeps w W → Calls Tryz.prog 30 #[.pointer (some ⟨mb,0,none⟩),.agg #[.int .u8 r.lo.tag,.int .u32 r.lo.to]] W fun e' w'=>e'=.returned (.int .i64 d0) ∧ Keeps W w')
  (I1:∀ W,Keeps w W → Calls Tryz.prog 30 #[.pointer (some ⟨mb,0,none⟩),.agg #[.int .u8 r.hi.tag,.int .u32 r.hi.to]] W fun e' w'=>e'=.returned (.int .i64 d1) ∧ Keeps W w') :
  Calls Tryz.prog 30 #[.pointer (some ⟨mb,0,none⟩),.agg #[.int .u8 e.tag,.int .u32 e.to]] w fun e' w'=>e'=.returned (.int .i64 d) ∧ Keeps w w':=by
 obtain ⟨a,cap,c0,hc⟩:=h.cell
 have hle:=h.le
 have hat:=fun (W:World) (hW:Keeps w W)=>ref_at (h.keeps hW) e.to
 rcases atI_look h e.to with ⟨r',hl,D,hD,hDe,hlt,hDi⟩ | ⟨hl,-,-⟩
 ·rw [hk] at hl
  cases hl
  obtain ⟨lb,rfl,_,hv⟩:=hc (by omega)
  have q3:w.cell? ⟨lb,D * 8 + 4,none⟩=some (.int .u8 r.lo.tag):=(hv _ _ hD 4 (by decide)).trans rfl
  have q4:w.cell? ⟨lb,D * 8 + 5,none⟩=some (.int .u32 r.lo.to):=(hv _ _ hD 5 (by decide)).trans rfl
  have q5:w.cell? ⟨lb,D * 8 + 6,none⟩=some (.int .u8 r.hi.tag):=(hv _ _ hD 6 (by decide)).trans rfl
  have q6:w.cell? ⟨lb,D * 8 + 7,none⟩=some (.int .u32 r.hi.to):=(hv _ _ hD 7 (by decide)).trans rfl
  have hlb:lb < w.heap.size:=lt_of_cell q3
  have hmb:mb < w.heap.size:=lt_of_cell c0
  have hdl:(D:Int) < (L.length:Int):=by omega
  have t0:0 ≤ e.to:=he.2.1
  have t1:e.to ≤ 4294967295:=he.2.2
  obtain ⟨r00,r01⟩:=r0
  obtain ⟨r10,r11⟩:=r1
  rw [hDi] at hat
  have HA:=Lib.hid hat
  have HI0:=Lib.hid I0
  have HI1:=Lib.hid I1
  have HD:=Lib.hid hd
  clear hat hc hv hD hDe hDi hlt hk he hd I0 I1 h
  go_enter Tryz.func30,Tryz.ntmps30
  go_wp2_with (first | (go_at_call 89;refine (HA.out _ (by (exact kp))).mono ?_;rintro e2 w2 ⟨rfl,rfl⟩) | fail)
  obtain ⟨W1,hW1⟩:∃ W1,W1=w.alloc (.cells #[.int .u8 e.tag,.int .u32 e.to] 25):=⟨_,rfl⟩
  have kW1:Keeps w W1:=by rw [hW1];exact (Keeps.refl _).alloc _
  rw [← hW1]
  have c0:=kW1.cell c0
  have q3:=kW1.cell q3
  have q4:=kW1.cell q4
  have q5:=kW1.cell q5
  have q6:=kW1.cell q6
  clear hW1
  go_region_held3 (fun w'=>w'.cell? ⟨mb,0,none⟩=some (.slice (some ⟨lb,0,none⟩) L.length cap) ∧ w'.cell? ⟨lb,D * 8 + 4,none⟩=some (.int .u8 r.lo.tag) ∧ w'.cell? ⟨lb,D * 8 + 5,none⟩=some (.int .u32 r.lo.to) ∧ w'.cell? ⟨lb,D * 8 + 6,none⟩=some (.int .u8 r.hi.tag) ∧ w'.cell? ⟨lb,D * 8 + 7,none⟩=some (.int .u32 r.hi.to)) (go_keep) ((first
   | (go_at_call 30;have qq:=HI0;clear qq;refine (HI0.out _ (by (exact kp))).mono ?_;rintro e' w3 ⟨rfl,hk3⟩;have c0:=hk3.cell c0;have q3:=hk3.cell q3;have q4:=hk3.cell q4;have q5:=hk3.cell q5;have q6:=hk3.cell q6;clear HI0)
   | (go_at_call 30;refine (HI1.out _ (by (exact kp))).mono ?_;rintro e' w4 ⟨rfl,hk4⟩;have c0:=hk4.cell c0;have q3:=hk4.cell q3;have q4:=hk4.cell q4;have q5:=hk4.cell q5;have q6:=hk4.cell q6)))
  all_goals (try go_wp2_with fail)
  all_goals
   go_ret
   refine ⟨?_,by (exact kp)⟩
   rw [HD.out]
   first | rfl | (refine congrArg (fun z=>Ending.returned (Value.int .i64 z)) ?_;unfold IntKind.wrap;simp [IntKind.signed,IntKind.bits];omega)
 ·rw [hk] at hl
  cases hl

set_option maxRecDepth 100000 in
theorem rdepth_none (h:RefRep F w mb M L) (e:Edge) (he:e.ok) (hk:look M.cs e.to=none) :
  Calls Tryz.prog 29 #[.pointer (some ⟨mb,0,none⟩),.agg #[.int .u8 e.tag,.int .u32 e.to]] w fun e' w'=>e'=.returned (.int .i64 0) ∧ Keeps w w':=by
 have hat:=fun (W:World) (hW:Keeps w W)=>ref_at (h.keeps hW) e.to
 rcases atI_look h e.to with ⟨r',hl,-⟩ | ⟨-,-,hDi⟩
 ·rw [hk] at hl
  cases hl
 ·have t0:0 ≤ e.to:=he.2.1
  have t1:e.to ≤ 4294967295:=he.2.2
  rw [hDi] at hat
  have HA:=Lib.hid hat
  clear hat hk he h hDi
  go_enter Tryz.func29,Tryz.ntmps29
  go_wp2_with (first | (go_at_call 89;refine (HA.out _ (by (exact kp))).mono ?_;rintro e2 w2 ⟨rfl,rfl⟩) | fail)
  go_ret
  exact ⟨rfl,by (exact kp)⟩

set_option maxRecDepth 100000 in
theorem rways_none (h:RefRep F w mb M L) (e:Edge) (he:e.ok) (hk:look M.cs e.to=none) :
  Calls Tryz.prog 30 #[.pointer (some ⟨mb,0,none⟩),.agg #[.int .u8 e.tag,.int .u32 e.to]] w fun e' w'=>e'=.returned (.int .i64 e.to) ∧ Keeps w w':=by
 have hat:=fun (W:World) (hW:Keeps w W)=>ref_at (h.keeps hW) e.to
 rcases atI_look h e.to with ⟨r',hl,-⟩ | ⟨-,-,hDi⟩
 ·rw [hk] at hl
  cases hl
 ·have t0:0 ≤ e.to:=he.2.1
  have t1:e.to ≤ 4294967295:=he.2.2
  rw [hDi] at hat
  have HA:=Lib.hid hat
  clear hat hk he h hDi
  go_enter Tryz.func30,Tryz.ntmps30
  go_wp2_with (first | (go_at_call 89;refine (HA.out _ (by (exact kp))).mono ?_;rintro e2 w2 ⟨rfl,rfl⟩) | fail)
  go_ret
  exact ⟨rfl,by (exact kp)⟩

end Go.Proofs.YtpgcbmbnognieaaGreat
