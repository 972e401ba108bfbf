/-
  order.Order.Var, Level; law18.Stage; build.may, build.Var.
-/
import Derived.Test.YtfpjogpjocedaaaGreatPSwapP
import Derived.RangeFuncStops
import Derived.RangeFuncCalls
import Derived.RangeFuncLeaves
import Derived.RangeFuncBox
import Derived.Shelf.Abstract
import Derived.Shelf.RegionOpen
import Derived.OwnWalkIn
import Derived.TacticsInMore
import Derived.LoopNIn
import Derived.LoopIn
namespace Go.Proofs.YtfpjogpjocedaaaGreat
set_option linter.unusedSimpArgs false
set_option linter.unusedVariables false
set_option maxHeartbeats 600000
open Go.RowKit

theorem ordAt_calls (a:Option Addr) (cap:Nat) (ps:List Int) (w:World) (h:IntsAt w a ps) (hl:ps.length ≤ 16) (i:Nat) (x:Int) (hx:ps[i]?=some x) :
  Calls Tryz.prog 118 #[.slice a ps.length cap,.int .i64 (i:Int)] w fun e w'=>e=.returned (.int .i64 x) ∧ w=w':=by
 obtain ⟨b,off,rfl,hc⟩:=h i x hx
 have hi:=(List.getElem?_eq_some_iff.1 hx).1
 obtain ⟨N,hN⟩:∃ N,N=ps.length:=⟨_,rfl⟩
 rw [← hN] at hl hi ⊢
 clear h hx hN
 go_enter Tryz.func118,Tryz.ntmps118
 go_wp2
 go_ret
 exact ⟨rfl,rfl⟩

theorem ordLevel_calls {F:Nat → Prop} {w:World} {ob:Nat} {ps:List Int} (h:OrdRep F w ob ps) (i v:Nat) (hx:ps[i]?=some (v:Int)) :
  Calls Tryz.prog 70 #[.pointer (some ⟨ob,0,none⟩),.int .i64 (v:Int)] w fun e w'=>e=.returned (.int .i64 (i:Int)) ∧ w=w':=by
 have hle:=h.le
 obtain ⟨⟨va,vc,lg,lc,qs,h1,h2,h3,h4,h5⟩,_⟩:=h
 have c1:w.cell? ⟨ob,1,none⟩=some (.slice (some ⟨lg,0,none⟩) ps.length lc):=by rw [cell_of_row w ob 1 _ _ _ h1];rfl
 have hq:=h2.2 i v hx
 rw [Int.toNat_natCast] at hq
 have HC:=Lib.hid (ordAt_calls (some ⟨lg,0,none⟩) lc qs w h4.ints (by rw [h2.1];exact hle) v (i:Int) hq)
 rw [h2.1] at HC
 obtain ⟨n,hn⟩:∃ n,n=ps.length:=⟨_,rfl⟩
 rw [← hn] at c1 HC
 clear h1 h2 h3 h4 h5 hn hx hq hle
 go_enter Tryz.func70,Tryz.ntmps70
 go_wp2_with (first | (go_at_call 118;refine HC.out.mono ?_;rintro e w1 ⟨rfl,rfl⟩) | fail)
 go_ret
 exact ⟨rfl,rfl⟩

set_option maxRecDepth 100000 in
theorem stage_calls (room:Int) (a:Option Addr) (cap:Nat) (ps:List Int) (w:World) (h:IntsAt w a ps) (hp:permB ps=true) (h0:0 ≤ room) (h1:room ≤ 1048576) :
  Calls Tryz.prog 22 #[.int .i64 room,.slice a ps.length cap] w fun e w'=>∃ sb ob F Fo,e=.returned (.tuple #[.pointer (some ⟨sb,0,none⟩),.pointer (some ⟨ob,0,none⟩),.bool true]) ∧ Keeps w w' ∧ StoreRep F w' sb (St.new (ps.length:Int) room) ∧ OrdRep Fo w' ob ps ∧ (∀ k,F k → ¬ Fo k) ∧ (∀ k,F k → w.heap.size ≤ k) ∧ (∀ k,Fo k → w.heap.size ≤ k):=by
 have hl:=(permB_iff.1 hp).1
 have hO:=fun (W:World) (hW:Keeps w W)=>orderOf_calls a cap ps W (h.keeps hW) (by omega)
 have hS:=fun (W:World)=>store_new (ps.length:Int) room W (by omega) (by omega) h0 h1
 simp only [hp,if_true] at hO
 obtain ⟨N,hN⟩:∃ N,N=ps.length:=⟨_,rfl⟩
 rw [← hN] at hO hS hl ⊢
 have HO:=Lib.hid hO
 have HS:=Lib.hid hS
 clear hO hS h hp hN
 go_enter Tryz.func22,Tryz.ntmps22
 go_wp2_with (first | (go_at_call 31;refine (HS.out _).mono ?_;rintro e w1 ⟨sb,F,rfl,hk1,hF,hR⟩) | fail)
 refine (HO.out _ hk1).mono ?_
 rintro e w2 ⟨hk2,ob,Fo,rfl,hOR,hFo⟩
 have HR:=Lib.hid hR
 have HOR:=Lib.hid hOR
 clear hR hOR
 go_wp2_with fail
 refine bodyPost_ret (v:=.tuple #[.pointer (some ⟨sb,0,none⟩),.pointer (some ⟨ob,0,none⟩),.bool true]) (by simp [results,Tryz.results22,go_sem]) rfl ⟨sb,ob,F,Fo,rfl,hk1.trans hk2,HR.out.keeps hk2,HOR.out,fun k hk hh=>?_,hF,fun k hk=>?_⟩
 ·have:=HR.out.lt k hk
  have:=hFo k hh
  omega
 ·have:=hFo k hk
  have:=hk1.size
  omega

set_option maxRecDepth 100000 in
theorem buildMay_calls {F Fo:Nat → Prop} {w:World} {sb ob:Nat} {M:St} {ps:List Int} (h:StoreRep F w sb M) (ho:OrdRep Fo w ob ps) (hn:M.n=(ps.length:Int)) (f:Int) (hf:isFormB f=true) :
  Calls Tryz.prog 58 #[.pointer (some ⟨sb,0,none⟩),.pointer (some ⟨ob,0,none⟩),.int .u8 f] w fun e w'=>e=.returned (.int .u8 0) ∧ Keeps w w':=by
 have HV:=Lib.hid (fun (W:World) (hW:Keeps w W)=>store_vars (h.keeps hW))
 have HO:=Lib.hid (fun (W:World) (hW:Keeps w W)=>ordVars_calls (ho.keeps hW))
 have hif:=isForm_calls f
 rw [hf] at hif
 have HI:=Lib.hid hif
 rw [hn] at HV
 have hle:=ho.le
 obtain ⟨N,hN⟩:∃ N,N=ps.length:=⟨_,rfl⟩
 rw [← hN] at HV HO hle
 clear h ho hn hif hf hN
 go_enter Tryz.func58,Tryz.ntmps58
 go_wp2_with (first | (go_at_call 44;refine (HV.out _ (by (exact kp))).mono ?_;rintro e w1 ⟨rfl,rfl⟩) | (go_at_call 38;refine (HO.out _ (by (exact kp))).mono ?_;rintro e w1 ⟨rfl,rfl⟩) | (go_at_call 61;refine (HI.out _).mono ?_;rintro e w1 ⟨rfl,rfl⟩) | fail)
 go_ret
 exact ⟨rfl,by (exact kp)⟩

def VarOut (F:Nat → Prop) (w:World) (sb:Nat) (M':St) (x:Edge) (er:Int) (r:Ending) (w':World):Prop:=
 ∃ F',r=.returned (.tuple #[.agg #[.int .u8 x.tag,.int .u32 x.to],.int .u8 er]) ∧ Upd F w w' ∧ StoreRep F' w' sb M' ∧ (∀ j,F' j → F j ∨ w.heap.size ≤ j)

set_option maxRecDepth 100000 in
set_option maxHeartbeats 2000000 in
theorem buildVar_calls {F Fo:Nat → Prop} {w:World} {sb ob:Nat} {M:St} {ps:List Int} (h:StoreRep F w sb M) (ho:OrdRep Fo w ob ps) (hn:M.n=(ps.length:Int)) (f:Int) (hf:isFormB f=true) (i v:Nat) (hx:ps[i]?=some (v:Int)) (x:Edge) (er:Int) (M':St)
  (hC:∀ W,Keeps w W → Calls Tryz.prog 69 #[.pointer (some ⟨sb,0,none⟩),.int .u8 f,.int .i64 0,.int .u16 (2 ^ i),.int .u16 0] W fun r w'=>r=.returned (.tuple #[.agg #[.int .u8 x.tag,.int .u32 x.to],.int .u8 er]) ∧ Upd F W w' ∧ StoreRep (Grow F W w') w' sb M') :
  Calls Tryz.prog 30 #[.pointer (some ⟨sb,0,none⟩),.pointer (some ⟨ob,0,none⟩),.int .u8 f,.int .i64 (v:Int)] w (VarOut F w sb M' x er):=by
 have HM:=Lib.hid (fun (W:World) (hW:Keeps w W)=>buildMay_calls (h.keeps hW) (ho.keeps hW) hn f hf)
 have HV:=Lib.hid (fun (W:World) (hW:Keeps w W)=>store_vars (h.keeps hW))
 have HL:=Lib.hid (fun (W:World) (hW:Keeps w W)=>ordLevel_calls (ho.keeps hW) i v hx)
 have HC:=Lib.hid hC
 have HLT:=Lib.hid h.lt
 have hle:=ho.le
 have hil:=(List.getElem?_eq_some_iff.1 hx).1
 have hvr:=((permB_iff.1 ho.perm).2.1 _ (List.mem_of_getElem? hx)).2
 rw [hn] at HV
 obtain ⟨N,hN⟩:∃ N,N=ps.length:=⟨_,rfl⟩
 rw [← hN] at HV hle hil hvr
 have hvN:¬ (N:Int) ≤ (v:Int):=by omega
 have hi15:(i:Int) ≤ 15:=by omega
 have hp2:(2:Nat) ^ i ≤ 2 ^ 15:=Nat.pow_le_pow_right (by decide) (by omega)
 have hpc:((2 ^ i:Nat):Int)=2 ^ i:=by push_cast;rfl
 have e15:(2:Nat) ^ 15=32768:=rfl
 have hp3:(0:Int) < 2 ^ i:=Int.pow_pos (by decide)
 have hp4:(2:Int) ^ i ≤ 32768:=by omega
 have hwr:(2:Int) ^ i % 65536=2 ^ i:=Int.emod_eq_of_lt (by omega) (by omega)
 clear h ho hn hf hx hC hN hp2 hpc e15
 go_enter Tryz.func30,Tryz.ntmps30
 go_wp2_with (first | (go_at_call 58;refine (HM.out _ (by (exact kp))).mono ?_;rintro e w1 ⟨rfl,hk1⟩) | (go_at_call 44;refine (HV.out _ (by (exact kp))).mono ?_;rintro e w1 ⟨rfl,rfl⟩) | (go_at_call 70;refine (HL.out _ (by (exact kp))).mono ?_;rintro e w1 ⟨rfl,rfl⟩) | fail)
 have hkw:Keeps w w1:=by (exact kp)
 have sz1:=hk1.size
 simp only [World.size_alloc] at sz1
 have r0:=hk1.cell (a:=⟨w.heap.size,0,none⟩) (v:=.int .u8 0) (by simp [go_sem])
 have r1:=hk1.cell (a:=⟨w.heap.size,1,none⟩) (v:=.int .u32 0) (by simp [go_sem])
 have rf:=fun o:Nat=>hk1.frz (a:=⟨w.heap.size,o,none⟩) (by simp) (by simp [go_sem])
 refine (HC.out _ hkw).mono ?_
 rintro r w3 ⟨rfl,hu,hS⟩
 have nR:¬ F w.heap.size:=fun hh=>by have:=HLT.out _ hh;omega
 replace r0:=hu.cellAt nR r0
 replace r1:=hu.cellAt nR r1
 replace rf:=fun o:Nat=>hu.frozen (a:=⟨w.heap.size,o,none⟩) (by show w.heap.size < _;omega) nR (rf o)
 have hout:∀ w',Upd (fun j=>j=w.heap.size) w3 w' → VarOut F w sb M' x er (.returned (.tuple #[.agg #[.int .u8 x.tag,.int .u32 x.to],.int .u8 er])) w':=fun w' hw'=>by
  refine ⟨Grow F w1 w3,rfl,((hkw.upd F).trans' hu).later hw' (fun i hi hh=>by omega),hS.keep hw' (fun k hk hh=>?_),fun j hj=>?_⟩
  ·subst hh
   rcases hk with q | q
   ·exact nR q
   ·omega
  ·rcases hj with q | q
   ·exact .inl q
   ·exact .inr (by omega)
 have HOUT:=Lib.hid hout
 clear hout hS hu hkw hk1
 go_wp2_with fail
 refine bodyPost_ret (v:=.tuple #[.agg #[.int .u8 x.tag,.int .u32 x.to],.int .u8 er]) (by simp [results,Tryz.results30,go_sem,r0,r1]) rfl (HOUT.out _ ?_)
 (repeat (first | with_reducible exact Upd.refl _ _ | refine updR ?_ _ _ | with_reducible refine Upd.alloc ?_ _ | with_reducible refine Upd.drew ?_))

end Go.Proofs.YtfpjogpjocedaaaGreat
