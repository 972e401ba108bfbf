/-
  law28.alive.
-/
import Derived.Test.YtiifimnpmbfihaaGreatPSaveS
import Derived.Test.YtiifimnpmbfihaaGreatPSwapS
import Derived.Test.YtiifimnpmbfihaaGreatPWireT
namespace Go.Proofs.YtiifimnpmbfihaaGreat
set_option linter.unusedSimpArgs false
set_option linter.unusedVariables false
set_option maxHeartbeats 600000
open Go Go.RowKit

def ex28:St:=⟨[some ⟨1,0,0,⟨0,0⟩,⟨0,1⟩⟩],[],1,5⟩

theorem ex28_cube:cubeGo 1 0 1 0 1 (St.new 1 5) (oneE 1 1)=(⟨0,2⟩,0,ex28):=by kernel_rfl

theorem ex28_num:numM ex28 2 []=[2]:=by decide +kernel

theorem ex28_bytes:saveB ex28 [0] 1 ⟨0,2⟩=[1,1,0,1,0,0,1,2]:=by
 have hl:look ex28.cs 2=some ⟨1,0,0,⟨0,0⟩,⟨0,1⟩⟩:=rfl
 unfold saveB
 show putB ex28.n.toNat ++ putB (1:Int).toNat ++ List.flatMap (fun x:Int=>putB x.toNat) [0] ++ putB (numM ex28 2 []).length ++ recsB ex28 1 (numM ex28 2 []) ++ edgeB 1 (numM ex28 2 []) ⟨0,2⟩=_
 rw [ex28_num]
 unfold recsB
 rw [List.flatMap_cons,List.flatMap_nil,List.flatMap_cons,List.flatMap_nil,hl]
 unfold recB edgeB
 simp only [grec]
 rw [show (ex28.n).toNat=1 from rfl,show (0:Int).toNat=0 from rfl,show (1:Int).toNat=1 from rfl,show ([2]:List Int).length=1 from rfl]
 simp [putB_low,List.idxOf]

theorem ex28_code:saveCode ex28 1 1 ⟨0,2⟩=0:=by
 unfold saveCode
 have h1:ex28.n=((1:Nat):Int):=rfl
 have h2:isFormB 1=true:=by decide
 have h3:kRight ex28 1 ⟨0,2⟩ 0=true:=by
  unfold kRight
  rw [if_pos rfl]
  decide
 rw [if_pos h1,if_pos h2,if_pos h3]

set_option maxRecDepth 100000 in
set_option maxHeartbeats 1000000 in
theorem l28_alive (w:World):Calls Tryz.prog 15 #[] w fun e w'=>e=.returned (.bool true) ∧ Keeps w w':=by
 have hp:permB [0]=true:=by decide
 have HST:=Lib.hid (fun (W:World) (a:Option Addr) (hI:IntsAt W a [0])=>stage_calls 5 a 1 [0] W hI hp (by decide) (by decide))
 clear hp
 go_enter Tryz.func15,Tryz.ntmps15
 go_wp2_with fail
 have hI:IntsAt (w.alloc (.cells #[.int .i64 0] 3)) (some ⟨w.heap.size,0,none⟩) [0]:=fun i x hx=>by
  rcases i with _ | i
  ·simp at hx;subst hx;exact ⟨_,0,rfl,by simp [go_sem]⟩
  ·simp at hx
 refine (HST.out _ _ hI).mono ?_
 rintro e w1 ⟨sb,ob,F,Fo,rfl,hk1,hS,hO,hd,hF,hFo⟩
 have hkw:Keeps w w1:=((Keeps.refl _).alloc _).trans hk1
 have hn:(St.new (([0]:List Int).length:Int) 5).n=(([0]:List Int).length:Int):=rfl
 have hcube:∀ W,Keeps w1 W → Calls Tryz.prog 157 #[.pointer (some ⟨sb,0,none⟩),.int .u8 1,.int .i64 0,.int .u16 (2 ^ 0),.int .u16 0] W fun r w'=>r=.returned (.tuple #[.agg #[.int .u8 (⟨0,2⟩:Edge).tag,.int .u32 (⟨0,2⟩:Edge).to],.int .u8 0]) ∧ Upd F W w' ∧ StoreRep (Grow F W w') w' sb ex28:=fun W hW=>by
  have:=cube_calls (hS.keeps hW) 1 0 1 0 (by decide) (by decide) (by decide) (by decide) (by decide) (by decide) (by decide) (by decide) (by decide) (by decide)
  change Calls _ _ _ W fun e w'=>e=.returned (.tuple #[.agg #[.int .u8 (cubeGo 1 0 1 0 1 (St.new 1 5) (oneE 1 1)).1.tag,.int .u32 (cubeGo 1 0 1 0 1 (St.new 1 5) (oneE 1 1)).1.to],.int .u8 (cubeGo 1 0 1 0 1 (St.new 1 5) (oneE 1 1)).2.1]) ∧ Upd F W w' ∧ StoreRep (Grow F W w') w' sb (cubeGo 1 0 1 0 1 (St.new 1 5) (oneE 1 1)).2.2 at this
  rw [ex28_cube] at this
  exact this
 have HVAR:=Lib.hid (buildVar_calls hS hO hn 1 (by decide) 0 0 rfl ⟨0,2⟩ 0 ex28 hcube)
 have HO:=Lib.hid hO
 have HD:=Lib.hid hd
 have HF:=Lib.hid hF
 have HFo:=Lib.hid hFo
 have HKW:=Lib.hid hkw
 have HLT:=Lib.hid hS.lt
 clear hcube hn hS hO hd hF hFo hkw hI HST hk1
 go_wp2_with fail
 refine HVAR.out.mono ?_
 rintro r w2 ⟨F2,rfl,hu2,hS2,hsub2⟩
 have hO2:OrdRep Fo w2 ob [0]:=HO.out.keep hu2 (fun k hk hh=>HD.out k hh hk)
 have hkw2:Keeps w w2:=HKW.out.new hu2 (fun j hj=>by have:=HF.out j hj;simp only [World.size_alloc] at this;omega)
 have HSV:=Lib.hid (fun (W:World) (hW:Keeps w2 W)=>show Calls Tryz.prog 18 #[.pointer (some ⟨sb,0,none⟩),.pointer (some ⟨ob,0,none⟩),.int .u8 1,.agg #[.int .u8 (⟨0,2⟩:Edge).tag,.int .u32 (⟨0,2⟩:Edge).to]] W fun r w'=>∃ a cap,r=.returned (.tuple #[.slice a 8 cap,.int .u8 0]) ∧ BsAt w' a [1,1,0,1,0,0,1,2] ∧ Keeps W w' from (save_calls (hS2.keeps hW) (hO2.keeps hW) 1 (by decide) ⟨0,2⟩ ⟨by decide,by decide⟩).mono fun r w' hh=>by
  rcases hh with ⟨_,v,rfl,hb,hk⟩ | ⟨hc,_⟩
  ·rw [ex28_bytes] at hb
   obtain ⟨a,cap,rfl,hat⟩:=hb.slice
   exact ⟨a,cap,rfl,hat,hk⟩
  ·exact absurd ex28_code hc)
 have HKW2:=Lib.hid hkw2
 clear hkw2 hO2 hS2 hsub2 hu2 HVAR
 go_wp2_with (first
  | (go_at_call 18;refine (HSV.out _ (by (exact kp))).mono ?_;rintro e3 w3 ⟨a3,cap3,rfl,hat,hk3⟩;have HAT:=Lib.hid hat;have HK3:=Lib.hid (HKW2.out.trans (show Keeps w2 w3 by (exact kp)));clear hat hk3 HSV)
  | (go_at_call 22;have hbt:BsAt (w3.alloc (.cells #[.int .u8 1,.int .u8 1,.int .u8 0,.int .u8 1,.int .u8 0,.int .u8 0,.int .u8 1,.int .u8 2] 5)) (some ⟨w3.heap.size,0,none⟩) [1,1,0,1,0,0,1,2]:=(fun i x hx=>by rcases i with _ | _ | _ | _ | _ | _ | _ | _ | i <;> simp at hx <;> (subst hx;exact ⟨_,0,rfl,by simp [go_sem]⟩));refine (same04_calls a3 (some ⟨w3.heap.size,0,none⟩) cap3 8 [1,1,0,1,0,0,1,2] [1,1,0,1,0,0,1,2] _ (HAT.out.keeps ((Keeps.refl _).alloc _)) hbt (by decide) (by decide)).mono ?_;rintro e4 w4 ⟨rfl,hk4⟩;clear hbt)
  | fail)
 go_ret
 exact ⟨rfl,(HK3.out.alloc _).trans hk4⟩

end Go.Proofs.YtiifimnpmbfihaaGreat
