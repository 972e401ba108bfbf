/-
  order.Order.Var, Level; law18.Stage; build.may, build.Var.
-/
import Derived.Test.YtfpjogpjocedaaaGreatPTextA
namespace Go.Proofs.YtfpjogpjocedaaaGreat
set_option linter.unusedSimpArgs false
set_option linter.unusedVariables false
set_option maxHeartbeats 600000
open Go.RowKit

theorem ordAt_calls (a:Option Addr) (cap:Nat) (ps:List Int) (w:World) (h:IntsAt w a ps) (hl:ps.length ≤ 16) (i:Nat) (x:Int) (hx:ps[i]?=some x) :
  Calls Tryz.prog 118 #[.slice a ps.length cap,.int .i64 (i:Int)] w fun e w'=>e=.returned (.int .i64 x) ∧ w=w':=by
 obtain ⟨b,off,rfl,hc⟩:=h i x hx
 have hi:=(List.getElem?_eq_some_iff.1 hx).1
 obtain ⟨N,hN⟩:∃ N,N=ps.length:=⟨_,rfl⟩
 rw [← hN] at hl hi ⊢
 clear h hx hN
 go_enter Tryz.func118,Tryz.ntmps118
 go_wp2
 go_ret
 exact ⟨rfl,rfl⟩

theorem ordVar_calls {F:Nat → Prop} {w:World} {ob:Nat} {ps:List Int} (h:OrdRep F w ob ps) (i:Nat) (x:Int) (hx:ps[i]?=some x) :
  Calls Tryz.prog 97 #[.pointer (some ⟨ob,0,none⟩),.int .i64 (i:Int)] w fun e w'=>e=.returned (.int .i64 x) ∧ w=w':=by
 obtain ⟨va,vc,lg,lc,c0,c1,hi⟩:=h.cells
 have HC:=Lib.hid (ordAt_calls va vc ps w hi h.le i x hx)
 obtain ⟨n,hn⟩:∃ n,n=ps.length:=⟨_,rfl⟩
 rw [← hn] at c0 c1 HC
 clear h c1 hi hn hx
 go_enter Tryz.func97,Tryz.ntmps97
 go_wp2_with (first | (go_at_call 118;refine HC.out.mono ?_;rintro e w1 ⟨rfl,rfl⟩) | fail)
 go_ret
 exact ⟨rfl,rfl⟩

theorem ordLevel_calls {F:Nat → Prop} {w:World} {ob:Nat} {ps:List Int} (h:OrdRep F w ob ps) (i v:Nat) (hx:ps[i]?=some (v:Int)) :
  Calls Tryz.prog 70 #[.pointer (some ⟨ob,0,none⟩),.int .i64 (v:Int)] w fun e w'=>e=.returned (.int .i64 (i:Int)) ∧ w=w':=by
 have hle:=h.le
 obtain ⟨⟨va,vc,lg,lc,qs,h1,h2,h3,h4,h5⟩,_⟩:=h
 have c1:w.cell? ⟨ob,1,none⟩=some (.slice (some ⟨lg,0,none⟩) ps.length lc):=by rw [cell_of_row w ob 1 _ _ _ h1];rfl
 have hq:=h2.2 i v hx
 rw [Int.toNat_natCast] at hq
 have HC:=Lib.hid (ordAt_calls (some ⟨lg,0,none⟩) lc qs w h4.ints (by rw [h2.1];exact hle) v (i:Int) hq)
 rw [h2.1] at HC
 obtain ⟨n,hn⟩:∃ n,n=ps.length:=⟨_,rfl⟩
 rw [← hn] at c1 HC
 clear h1 h2 h3 h4 h5 hn hx hq hle
 go_enter Tryz.func70,Tryz.ntmps70
 go_wp2_with (first | (go_at_call 118;refine HC.out.mono ?_;rintro e w1 ⟨rfl,rfl⟩) | fail)
 go_ret
 exact ⟨rfl,rfl⟩

set_option maxRecDepth 100000 in
theorem stage_calls (room:Int) (a:Option Addr) (cap:Nat) (ps:List Int) (w:World) (h:IntsAt w a ps) (hp:permB ps=true) (h0:0 ≤ room) (h1:room ≤ 1048576) :
  Calls Tryz.prog 22 #[.int .i64 room,.slice a ps.length cap] w fun e w'=>∃ sb ob F Fo,e=.returned (.tuple #[.pointer (some ⟨sb,0,none⟩),.pointer (some ⟨ob,0,none⟩),.bool true]) ∧ Keeps w w' ∧ StoreRep F w' sb (St.new (ps.length:Int) room) ∧ OrdRep Fo w' ob ps ∧ (∀ k,F k → ¬ Fo k) ∧ (∀ k,F k → w.heap.size ≤ k) ∧ (∀ k,Fo k → w.heap.size ≤ k):=by
 have hl:=(permB_iff.1 hp).1
 have hO:=fun (W:World) (hW:Keeps w W)=>orderOf_calls a cap ps W (h.keeps hW) (by omega)
 have hS:=fun (W:World)=>store_new (ps.length:Int) room W (by omega) (by omega) h0 h1
 simp only [hp,if_true] at hO
 obtain ⟨N,hN⟩:∃ N,N=ps.length:=⟨_,rfl⟩
 rw [← hN] at hO hS hl ⊢
 have HO:=Lib.hid hO
 have HS:=Lib.hid hS
 clear hO hS h hp hN
 go_enter Tryz.func22,Tryz.ntmps22
 go_wp2_with (first | (go_at_call 31;refine (HS.out _).mono ?_;rintro e w1 ⟨sb,F,rfl,hk1,hF,hR⟩) | fail)
 refine (HO.out _ hk1).mono ?_
 rintro e w2 ⟨hk2,ob,Fo,rfl,hOR,hFo⟩
 have HR:=Lib.hid hR
 have HOR:=Lib.hid hOR
 clear hR hOR
 go_wp2_with fail
 refine bodyPost_ret (v:=.tuple #[.pointer (some ⟨sb,0,none⟩),.pointer (some ⟨ob,0,none⟩),.bool true]) (by simp [results,Tryz.results22,go_sem]) rfl ⟨sb,ob,F,Fo,rfl,hk1.trans hk2,HR.out.keeps hk2,HOR.out,fun k hk hh=>?_,hF,fun k hk=>?_⟩
 ·have:=HR.out.lt k hk
  have:=hFo k hh
  omega
 ·have:=hFo k hk
  have:=hk1.size
  omega

set_option maxRecDepth 100000 in
theorem buildMay_calls {F Fo:Nat → Prop} {w:World} {sb ob:Nat} {M:St} {ps:List Int} (h:StoreRep F w sb M) (ho:OrdRep Fo w ob ps) (hn:M.n=(ps.length:Int)) (f:Int) (hf:isFormB f=true) :
  Calls Tryz.prog 58 #[.pointer (some ⟨sb,0,none⟩),.pointer (some ⟨ob,0,none⟩),.int .u8 f] w fun e w'=>e=.returned (.int .u8 0) ∧ Keeps w w':=by
 have HV:=Lib.hid (fun (W:World) (hW:Keeps w W)=>store_vars (h.keeps hW))
 have HO:=Lib.hid (fun (W:World) (hW:Keeps w W)=>ordVars_calls (ho.keeps hW))
 have hif:=isForm_calls f
 rw [hf] at hif
 have HI:=Lib.hid hif
 rw [hn] at HV
 have hle:=ho.le
 obtain ⟨N,hN⟩:∃ N,N=ps.length:=⟨_,rfl⟩
 rw [← hN] at HV HO hle
 clear h ho hn hif hf hN
 go_enter Tryz.func58,Tryz.ntmps58
 go_wp2_with (first | (go_at_call 44;refine (HV.out _ (by (exact kp))).mono ?_;rintro e w1 ⟨rfl,rfl⟩) | (go_at_call 38;refine (HO.out _ (by (exact kp))).mono ?_;rintro e w1 ⟨rfl,rfl⟩) | (go_at_call 61;refine (HI.out _).mono ?_;rintro e w1 ⟨rfl,rfl⟩) | fail)
 go_ret
 exact ⟨rfl,by (exact kp)⟩

def VarOut (F:Nat → Prop) (w:World) (sb:Nat) (M':St) (x:Edge) (er:Int) (r:Ending) (w':World):Prop:=
 ∃ F',r=.returned (.tuple #[.agg #[.int .u8 x.tag,.int .u32 x.to],.int .u8 er]) ∧ Upd F w w' ∧ StoreRep F' w' sb M' ∧ (∀ j,F' j → F j ∨ w.heap.size ≤ j)

set_option maxRecDepth 100000 in
set_option maxHeartbeats 2000000 in
theorem buildVar_calls {F Fo:Nat → Prop} {w:World} {sb ob:Nat} {M:St} {ps:List Int} (h:StoreRep F w sb M) (ho:OrdRep Fo w ob ps) (hn:M.n=(ps.length:Int)) (f:Int) (hf:isFormB f=true) (i v:Nat) (hx:ps[i]?=some (v:Int)) (x:Edge) (er:Int) (M':St)
  (hC:∀ W,Keeps w W → Calls Tryz.prog 69 #[.pointer (some ⟨sb,0,none⟩),.int .u8 f,.int .i64 0,.int .u16 (2 ^ i),.int .u16 0] W fun r w'=>r=.returned (.tuple #[.agg #[.int .u8 x.tag,.int .u32 x.to],.int .u8 er]) ∧ Upd F W w' ∧ StoreRep (Grow F W w') w' sb M') :
  Calls Tryz.prog 30 #[.pointer (some ⟨sb,0,none⟩),.pointer (some ⟨ob,0,none⟩),.int .u8 f,.int .i64 (v:Int)] w (VarOut F w sb M' x er):=by
 have HM:=Lib.hid (fun (W:World) (hW:Keeps w W)=>buildMay_calls (h.keeps hW) (ho.keeps hW) hn f hf)
 have HV:=Lib.hid (fun (W:World) (hW:Keeps w W)=>store_vars (h.keeps hW))
 have HL:=Lib.hid (fun (W:World) (hW:Keeps w W)=>ordLevel_calls (ho.keeps hW) i v hx)
 have HC:=Lib.hid hC
 have HLT:=Lib.hid h.lt
 have hle:=ho.le
 have hil:=(List.getElem?_eq_some_iff.1 hx).1
 have hvr:=((permB_iff.1 ho.perm).2.1 _ (List.mem_of_getElem? hx)).2
 rw [hn] at HV
 obtain ⟨N,hN⟩:∃ N,N=ps.length:=⟨_,rfl⟩
 rw [← hN] at HV hle hil hvr
 have hvN:¬ (N:Int) ≤ (v:Int):=by omega
 have hi15:(i:Int) ≤ 15:=by omega
 have hp2:(2:Nat) ^ i ≤ 2 ^ 15:=Nat.pow_le_pow_right (by decide) (by omega)
 have hpc:((2 ^ i:Nat):Int)=2 ^ i:=by push_cast;rfl
 have e15:(2:Nat) ^ 15=32768:=rfl
 have hp3:(0:Int) < 2 ^ i:=Int.pow_pos (by decide)
 have hp4:(2:Int) ^ i ≤ 32768:=by omega
 have hwr:(2:Int) ^ i % 65536=2 ^ i:=Int.emod_eq_of_lt (by omega) (by omega)
 clear h ho hn hf hx hC hN hp2 hpc e15
 go_enter Tryz.func30,Tryz.ntmps30
 go_wp2_with (first | (go_at_call 58;refine (HM.out _ (by (exact kp))).mono ?_;rintro e w1 ⟨rfl,hk1⟩) | (go_at_call 44;refine (HV.out _ (by (exact kp))).mono ?_;rintro e w1 ⟨rfl,rfl⟩) | (go_at_call 70;refine (HL.out _ (by (exact kp))).mono ?_;rintro e w1 ⟨rfl,rfl⟩) | fail)
 have hkw:Keeps w w1:=by (exact kp)
 have sz1:=hk1.size
 simp only [World.size_alloc] at sz1
 have r0:=hk1.cell (a:=⟨w.heap.size,0,none⟩) (v:=.int .u8 0) (by simp [go_sem])
 have r1:=hk1.cell (a:=⟨w.heap.size,1,none⟩) (v:=.int .u32 0) (by simp [go_sem])
 have rf:=fun o:Nat=>hk1.frz (a:=⟨w.heap.size,o,none⟩) (by simp) (by simp [go_sem])
 refine (HC.out _ hkw).mono ?_
 rintro r w3 ⟨rfl,hu,hS⟩
 have nR:¬ F w.heap.size:=fun hh=>by have:=HLT.out _ hh;omega
 replace r0:=hu.cellAt nR r0
 replace r1:=hu.cellAt nR r1
 replace rf:=fun o:Nat=>hu.frozen (a:=⟨w.heap.size,o,none⟩) (by show w.heap.size < _;omega) nR (rf o)
 have hout:∀ w',Upd (fun j=>j=w.heap.size) w3 w' → VarOut F w sb M' x er (.returned (.tuple #[.agg #[.int .u8 x.tag,.int .u32 x.to],.int .u8 er])) w':=fun w' hw'=>by
  refine ⟨Grow F w1 w3,rfl,((hkw.upd F).trans' hu).later hw' (fun i hi hh=>by omega),hS.keep hw' (fun k hk hh=>?_),fun j hj=>?_⟩
  ·subst hh
   rcases hk with q | q
   ·exact nR q
   ·omega
  ·rcases hj with q | q
   ·exact .inl q
   ·exact .inr (by omega)
 have HOUT:=Lib.hid hout
 clear hout hS hu hkw hk1
 go_wp2_with fail
 refine bodyPost_ret (v:=.tuple #[.agg #[.int .u8 x.tag,.int .u32 x.to],.int .u8 er]) (by simp [results,Tryz.results30,go_sem,r0,r1]) rfl (HOUT.out _ ?_)
 (repeat (first | with_reducible exact Upd.refl _ _ | refine updR ?_ _ _ | with_reducible refine Upd.alloc ?_ _ | with_reducible refine Upd.drew ?_))

open Go Go.RowKit

def ex28:St:=⟨[some ⟨1,0,0,⟨0,0⟩,⟨0,1⟩⟩],[],1,5⟩

theorem ex28_cube:cubeGo 1 0 1 0 1 (St.new 1 5) (oneE 1 1)=(⟨0,2⟩,0,ex28):=by kernel_rfl

theorem ex28_num:numM ex28 2 []=[2]:=by decide +kernel

theorem ex28_bytes:saveB ex28 [0] 1 ⟨0,2⟩=[1,1,0,1,0,0,1,2]:=by
 have hl:look ex28.cs 2=some ⟨1,0,0,⟨0,0⟩,⟨0,1⟩⟩:=rfl
 unfold saveB
 show putB ex28.n.toNat ++ putB (1:Int).toNat ++ List.flatMap (fun x:Int=>putB x.toNat) [0] ++ putB (numM ex28 2 []).length ++ recsB ex28 1 (numM ex28 2 []) ++ edgeB 1 (numM ex28 2 []) ⟨0,2⟩=_
 rw [ex28_num]
 unfold recsB
 rw [List.flatMap_cons,List.flatMap_nil,List.flatMap_cons,List.flatMap_nil,hl]
 unfold recB edgeB
 simp only [grec]
 rw [show (ex28.n).toNat=1 from rfl,show (0:Int).toNat=0 from rfl,show (1:Int).toNat=1 from rfl,show ([2]:List Int).length=1 from rfl]
 simp [putB_low,List.idxOf]

theorem ex28_code:saveCode ex28 1 1 ⟨0,2⟩=0:=by
 unfold saveCode
 have h1:ex28.n=((1:Nat):Int):=rfl
 have h2:isFormB 1=true:=by decide
 have h3:kRight ex28 1 ⟨0,2⟩ 0=true:=by
  unfold kRight
  rw [if_pos rfl]
  decide
 rw [if_pos h1,if_pos h2,if_pos h3]

set_option maxRecDepth 100000 in
set_option maxHeartbeats 1000000 in
theorem l28_alive (w:World):Calls Tryz.prog 7 #[] w fun e w'=>e=.returned (.bool true) ∧ Keeps w w':=by
 have hp:permB [0]=true:=by decide
 have HST:=Lib.hid (fun (W:World) (a:Option Addr) (hI:IntsAt W a [0])=>stage_calls 5 a 1 [0] W hI hp (by decide) (by decide))
 clear hp
 go_enter Tryz.func7,Tryz.ntmps7
 go_wp2_with fail
 have hI:IntsAt (w.alloc (.cells #[.int .i64 0] 3)) (some ⟨w.heap.size,0,none⟩) [0]:=fun i x hx=>by
  rcases i with _ | i
  ·simp at hx;subst hx;exact ⟨_,0,rfl,by simp [go_sem]⟩
  ·simp at hx
 refine (HST.out _ _ hI).mono ?_
 rintro e w1 ⟨sb,ob,F,Fo,rfl,hk1,hS,hO,hd,hF,hFo⟩
 have hkw:Keeps w w1:=((Keeps.refl _).alloc _).trans hk1
 have hn:(St.new (([0]:List Int).length:Int) 5).n=(([0]:List Int).length:Int):=rfl
 have hcube:∀ W,Keeps w1 W → Calls Tryz.prog 69 #[.pointer (some ⟨sb,0,none⟩),.int .u8 1,.int .i64 0,.int .u16 (2 ^ 0),.int .u16 0] W fun r w'=>r=.returned (.tuple #[.agg #[.int .u8 (⟨0,2⟩:Edge).tag,.int .u32 (⟨0,2⟩:Edge).to],.int .u8 0]) ∧ Upd F W w' ∧ StoreRep (Grow F W w') w' sb ex28:=fun W hW=>by
  have:=cube_calls (hS.keeps hW) 1 0 1 0 (by decide) (by decide) (by decide) (by decide) (by decide) (by decide) (by decide) (by decide) (by decide) (by decide)
  change Calls _ _ _ W fun e w'=>e=.returned (.tuple #[.agg #[.int .u8 (cubeGo 1 0 1 0 1 (St.new 1 5) (oneE 1 1)).1.tag,.int .u32 (cubeGo 1 0 1 0 1 (St.new 1 5) (oneE 1 1)).1.to],.int .u8 (cubeGo 1 0 1 0 1 (St.new 1 5) (oneE 1 1)).2.1]) ∧ Upd F W w' ∧ StoreRep (Grow F W w') w' sb (cubeGo 1 0 1 0 1 (St.new 1 5) (oneE 1 1)).2.2 at this
  rw [ex28_cube] at this
  exact this
 have HVAR:=Lib.hid (buildVar_calls hS hO hn 1 (by decide) 0 0 rfl ⟨0,2⟩ 0 ex28 hcube)
 have HO:=Lib.hid hO
 have HD:=Lib.hid hd
 have HF:=Lib.hid hF
 have HFo:=Lib.hid hFo
 have HKW:=Lib.hid hkw
 have HLT:=Lib.hid hS.lt
 clear hcube hn hS hO hd hF hFo hkw hI HST hk1
 go_wp2_with fail
 refine HVAR.out.mono ?_
 rintro r w2 ⟨F2,rfl,hu2,hS2,hsub2⟩
 have hO2:OrdRep Fo w2 ob [0]:=HO.out.keep hu2 (fun k hk hh=>HD.out k hh hk)
 have hkw2:Keeps w w2:=HKW.out.new hu2 (fun j hj=>by have:=HF.out j hj;simp only [World.size_alloc] at this;omega)
 have HSV:=Lib.hid (fun (W:World) (hW:Keeps w2 W)=>show Calls Tryz.prog 25 #[.pointer (some ⟨sb,0,none⟩),.pointer (some ⟨ob,0,none⟩),.int .u8 1,.agg #[.int .u8 (⟨0,2⟩:Edge).tag,.int .u32 (⟨0,2⟩:Edge).to]] W fun r w'=>∃ a cap,r=.returned (.tuple #[.slice a 8 cap,.int .u8 0]) ∧ BsAt w' a [1,1,0,1,0,0,1,2] ∧ Keeps W w' from (save_calls (hS2.keeps hW) (hO2.keeps hW) 1 (by decide) ⟨0,2⟩ ⟨by decide,by decide⟩).mono fun r w' hh=>by
  rcases hh with ⟨_,v,rfl,hb,hk⟩ | ⟨hc,_⟩
  ·rw [ex28_bytes] at hb
   obtain ⟨a,cap,rfl,hat⟩:=hb.slice
   exact ⟨a,cap,rfl,hat,hk⟩
  ·exact absurd ex28_code hc)
 have HKW2:=Lib.hid hkw2
 clear hkw2 hO2 hS2 hsub2 hu2 HVAR
 go_wp2_with (first
  | (go_at_call 25;refine (HSV.out _ (by (exact kp))).mono ?_;rintro e3 w3 ⟨a3,cap3,rfl,hat,hk3⟩;have HAT:=Lib.hid hat;have HK3:=Lib.hid (HKW2.out.trans (show Keeps w2 w3 by (exact kp)));clear hat hk3 HSV)
  | (go_at_call 18;have hbt:BsAt (w3.alloc (.cells #[.int .u8 1,.int .u8 1,.int .u8 0,.int .u8 1,.int .u8 0,.int .u8 0,.int .u8 1,.int .u8 2] 5)) (some ⟨w3.heap.size,0,none⟩) [1,1,0,1,0,0,1,2]:=(fun i x hx=>by rcases i with _ | _ | _ | _ | _ | _ | _ | _ | i <;> simp at hx <;> (subst hx;exact ⟨_,0,rfl,by simp [go_sem]⟩));refine (same04_calls a3 (some ⟨w3.heap.size,0,none⟩) cap3 8 [1,1,0,1,0,0,1,2] [1,1,0,1,0,0,1,2] _ (HAT.out.keeps ((Keeps.refl _).alloc _)) hbt (by decide) (by decide)).mono ?_;rintro e4 w4 ⟨rfl,hk4⟩;clear hbt)
  | fail)
 go_ret
 exact ⟨rfl,(HK3.out.alloc _).trans hk4⟩

def numL:List Bool → Nat
 | []=>0
 | b :: l=>(if b then 1 else 0) + 2 * numL l

theorem numL_lt:∀ l:List Bool,numL l < 2 ^ l.length:=by
 intro l
 induction l with
 | nil=>decide
 | cons b l ih=>
  show (if b then 1 else 0) + 2 * numL l < 2 ^ (l.length + 1)
  rw [Nat.pow_succ]
  cases b <;> simp <;> omega

def setOkB (n:Int) (ws:List Int):Bool:=decide (0 ≤ n ∧ n ≤ 16) && (decide (ws.length=max 1 (2 ^ n.toNat / 64)) && decide (6 ≤ n ∨ ws.getD 0 0 < 2 ^ 2 ^ n.toNat))

def hasB (ws:List Int) (x:Nat):Bool:=ws.getD (x / 64) 0 / 2 ^ (x % 64) % 2 == 1

theorem setOkB_iff {n:Int} {ws:List Int}:setOkB n ws=true ↔ (0 ≤ n ∧ n ≤ 16) ∧ ws.length=max 1 (2 ^ n.toNat / 64) ∧ (6 ≤ n ∨ ws.getD 0 0 < 2 ^ 2 ^ n.toNat):=by
 unfold setOkB
 rw [Bool.and_eq_true,Bool.and_eq_true,decide_eq_true_eq,decide_eq_true_eq,decide_eq_true_eq]

def wordsL (ts:List Bool):List Int:=(List.range ((ts.length + 63) / 64)).map (fun w=>(numL ((ts.drop (64 * w)).take 64):Int))

theorem wordsL_len (ts:List Bool):(wordsL ts).length=(ts.length + 63) / 64:=by unfold wordsL;simp

theorem wordsL_get {ts:List Bool} {w:Nat} (h:w < (ts.length + 63) / 64):(wordsL ts).getD w 0=(numL ((ts.drop (64 * w)).take 64):Int):=by
 unfold wordsL
 rw [List.getD_eq_getElem?_getD,List.getElem?_map,List.getElem?_range h]
 rfl

theorem words_max:∀ n:Nat,n ≤ 16 → (2 ^ n + 63) / 64=max 1 (2 ^ n / 64):=by decide

theorem setOkB_words {ts:List Bool} {n:Nat} (hn:n ≤ 16) (hl:ts.length=2 ^ n):setOkB (n:Int) (wordsL ts)=true:=by
 have hp:0 < 2 ^ n:=Nat.pow_pos (by decide)
 refine setOkB_iff.2 ⟨by omega,by rw [wordsL_len,hl,Int.toNat_natCast];exact words_max n hn,?_⟩
 by_cases h6:6 ≤ n
 ·exact .inl (by omega)
 ·right
  rw [wordsL_get (by omega),Int.toNat_natCast]
  have h1:=numL_lt ((ts.drop (64 * 0)).take 64)
  have h2:((ts.drop (64 * 0)).take 64).length ≤ 2 ^ n:=by rw [List.length_take,List.length_drop];omega
  have h3:2 ^ ((ts.drop (64 * 0)).take 64).length ≤ 2 ^ 2 ^ n:=Nat.pow_le_pow_right (by decide) h2
  exact_mod_cast Nat.lt_of_lt_of_le h1 h3

def bldT (has:Nat → Bool):List Int → Nat → List Bool
 | [],x=>[has x]
 | v :: vs,x=>bldT has vs x ++ bldT has vs (x ||| 2 ^ v.toNat)

theorem bldT_len (has:Nat → Bool):∀ (vs:List Int) (x:Nat),(bldT has vs x).length=2 ^ vs.length:=by
 intro vs
 induction vs with
 | nil=>intro x;rfl
 | cons v vs ih=>intro x;show (bldT has vs x ++ bldT has vs _).length=2 ^ (vs.length + 1);rw [List.length_append,ih,ih,Nat.pow_succ];omega

def putV (X:Nat):List Int → Nat → Nat
 | [],x=>x
 | v :: vs,x=>putV X vs (if bitB (X:Int) v=true then x ||| 2 ^ v.toNat else x)

theorem bldT_dnN (has:Nat → Bool) (X:Nat):∀ (vs:List Int) (x:Nat),(bldT has vs x)[dnN X vs]?=some (has (putV X vs x)):=by
 intro vs
 induction vs with
 | nil=>intro x;rfl
 | cons v vs ih=>
  intro x
  show (bldT has vs x ++ bldT has vs (x ||| 2 ^ v.toNat))[vb X v * 2 ^ vs.length + dnN X vs]?=some (has (putV X vs _))
  have hlt:=dnN_lt X vs
  unfold vb
  by_cases hb:bitB (X:Int) v=true
  ·rw [if_pos hb,if_pos hb,List.getElem?_append_right (by rw [bldT_len];omega),bldT_len,show 1 * 2 ^ vs.length + dnN X vs - 2 ^ vs.length=dnN X vs from by omega]
   exact ih _
  ·rw [if_neg hb,if_neg hb,List.getElem?_append_left (by rw [bldT_len];omega),show 0 * 2 ^ vs.length + dnN X vs=dnN X vs from by omega]
   exact ih _

theorem putV_bit (X:Nat):∀ (vs:List Int) (x j:Nat),(∀ v ∈ vs,0 ≤ v) → (putV X vs x).testBit j=(x.testBit j || (decide ((j:Int) ∈ vs) && X.testBit j)):=by
 intro vs
 induction vs with
 | nil=>intro x j _;simp [putV]
 | cons v vs ih=>
  intro x j h
  have h0:=h v (by simp)
  show (putV X vs _).testBit j=_
  rw [ih _ j (fun u hu=>h u (by simp [hu]))]
  obtain ⟨V,rfl⟩:∃ V:Nat,v=(V:Int):=⟨v.toNat,by omega⟩
  rw [bitB_testBit,Int.toNat_natCast]
  by_cases hj:j=V
  ·subst hj
   cases hX:X.testBit j <;> simp [Nat.testBit_or,Nat.testBit_two_pow]
  ·have hne:¬ V=j:=fun e=>hj e.symm
   have hne2:¬ (j:Int)=(V:Int):=by omega
   cases hX:X.testBit V
   ·simp [hne2]
   ·simp [hne2,Nat.testBit_or,Nat.testBit_two_pow,hne]

theorem putV_all {X:Nat} {ps:List Int} (hp:permB ps=true) (hX:X < 2 ^ ps.length):putV X ps 0=X:=by
 obtain ⟨h1,h2,h3⟩:=permB_iff.1 hp
 apply Nat.eq_of_testBit_eq
 intro j
 rw [putV_bit X ps 0 j (fun v hv=>(h2 v hv).1)]
 by_cases hj:j < ps.length
 ·have:(j:Int) ∈ ps:=(permB_perm.1 hp).2.symm.subset (mem_numsI.2 ⟨by omega,by omega⟩)
  simp [this]
 ·have:X.testBit j=false:=Nat.testBit_lt_two_pow (Nat.lt_of_lt_of_le hX (Nat.pow_le_pow_right (by decide) (by omega)))
  simp [this]

end Go.Proofs.YtfpjogpjocedaaaGreat
