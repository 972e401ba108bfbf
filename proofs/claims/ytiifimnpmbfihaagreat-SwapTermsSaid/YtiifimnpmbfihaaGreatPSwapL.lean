/-
  law26.alive.
-/
import Derived.Test.YtiifimnpmbfihaaGreatPSwapG
namespace Go.Proofs.YtiifimnpmbfihaaGreat
set_option linter.unusedSimpArgs false
set_option linter.unusedVariables false
set_option maxHeartbeats 600000
open Go.RowKit

def exSt:St:=⟨[some ⟨1,0,0,⟨0,0⟩,⟨0,1⟩⟩],[],2,20⟩

theorem ex_cube:cubeGo 1 0 1 0 2 (St.new 2 20) (oneE 1 2)=(⟨0,2⟩,0,exSt):=by kernel_rfl

theorem ex_plain {M':St} {x:Edge} (hw:M'.wf) (hE:Ext exSt M') (hlen:M'.len ≤ 1000) (hfit:Fit0 M') (h:RootOk 2 [0] exSt M' 1 ⟨0,2⟩ x):look M'.cs x.to=some ⟨1,1,1,⟨0,0⟩,⟨0,1⟩⟩:=by
 have hn:M'.n=2:=hE.n
 have ht:=h.tab [0,1] rfl
 have hr:runL [0,1] [0]=[1,0]:=rfl
 have h1:tabP exSt [0,1] 1 ⟨0,2⟩=[false,true,false,true]:=by decide +kernel
 rw [hr,h1] at ht
 have h2:tabP M' [1,0] 1 x=[tv M' 1 0 0 x,tv M' 1 2 0 x,tv M' 1 1 0 x,tv M' 1 3 0 x]:=rfl
 have h3:tabE M' 1 x 0=[tv M' 1 0 0 x,tv M' 1 2 0 x,tv M' 1 1 0 x,tv M' 1 3 0 x]:=by
  unfold tabE
  rw [hn]
  rfl
 rw [h2] at ht
 obtain ⟨M2,y1,y2,y3,y4,y5,y6⟩:=right_isT (k:=2) (by decide) hw (by have:((2 ^ 2:Nat):Int)=4:=rfl;omega) h.ok.2.1 hfit h.lead (fun hf=>by omega) (Int.le_refl _) (by rw [hn];rfl)
 rw [h3,ht] at y6
 obtain ⟨_,lo,hi,t1,t2,hp⟩:=y6
 have t2':IsT 1 M2 1 [false,true] 1 hi:=t2
 have t1':IsT 1 M2 1 [false,true] 1 lo:=t1
 have hlh:lo=hi:=IsT.det y2 _ _ _ _ _ t1' t2'
 subst hlh
 have n2:M2.n=2:=y1.n.trans hn
 have hx:x=lo:=by
  have nl:¬ (M2.leads 1 lo (0 + 1)=false ∨ M2.leads 1 lo (0 + 1)=false):=by rw [hp.lo];simp
  rcases hp.up with u | ⟨r,u,_⟩
  ·rw [mkK1] at u
   unfold makeAct bRest at u
   rw [if_neg (by omega),if_neg nl,if_pos rfl] at u
   exact (congrArg (fun z=>match z with | .inl p=>p.1 | .inr _=>(⟨0,0⟩:Edge)) u).symm
  ·rw [mkK1] at u
   unfold makeAct bRest at u
   rw [if_neg (by omega),if_neg nl,if_pos rfl] at u
   cases u
 obtain ⟨_,a,b,s1,s2,hq⟩:=t1'
 obtain ⟨ba,ea,rfl⟩:=s1
 obtain ⟨bb,eb,rfl⟩:=s2
 have e1:ba=false:=by simpa using ea.symm
 have e2:bb=true:=by simpa using eb.symm
 subst e1 e2
 have hl2:look M2.cs lo.to=some ⟨1,1,1,⟨0,0⟩,⟨0,1⟩⟩:=by
  have q1:=hq.lo
  have q2:=hq.hi
  have nl:¬ (M2.leads 1 (endE 1 false (1 + 1)) (1 + 1)=false ∨ M2.leads 1 (endE 1 true (1 + 1)) (1 + 1)=false):=by rw [q1,q2];simp
  rcases hq.up with u | ⟨r,u,u2,_⟩
  ·rw [mkK1] at u
   unfold makeAct bRest at u
   rw [if_neg (by omega),if_neg nl,if_neg (by decide)] at u
   cases u
  ·rw [mkK1] at u
   unfold makeAct bRest at u
   rw [if_neg (by omega),if_neg nl,if_neg (by decide)] at u
   rw [u2]
   exact (congrArg (fun z=>match z with | .inl _=>(none:Option Rec) | .inr q=>some q) u).symm
 rw [← hx,y1.same h.lead] at hl2
 exact hl2

set_option maxRecDepth 100000 in
set_option maxHeartbeats 4000000 in
theorem l26_alive (w:World):Calls Tryz.prog 45 #[] w fun e w'=>e=.returned (.bool true) ∧ Keeps w w':=by
 have hp:permB [0,1]=true:=by decide
 have HST:=Lib.hid (fun (W:World) (a:Option Addr) (hI:IntsAt W a [0,1])=>stage_calls 20 a 2 [0,1] W hI hp (by decide) (by decide))
 clear hp
 go_enter Tryz.func45,Tryz.ntmps45
 go_wp2_with fail
 have hI:IntsAt (w.alloc (.cells #[.int .i64 0,.int .i64 1] 3)) (some ⟨w.heap.size,0,none⟩) [0,1]:=fun i x hx=>by
  rcases i with _ | _ | i
  ·simp at hx;subst hx;exact ⟨_,0,rfl,by simp [go_sem]⟩
  ·simp at hx;subst hx;exact ⟨_,0,rfl,by simp [go_sem]⟩
  ·simp at hx
 refine (HST.out _ _ hI).mono ?_
 rintro e w1 ⟨sb,ob,F,Fo,rfl,hk1,hS,hO,hd,hF,hFo⟩
 have hkw:Keeps w w1:=((Keeps.refl _).alloc _).trans hk1
 have hn:(St.new (([0,1]:List Int).length:Int) 20).n=(([0,1]:List Int).length:Int):=rfl
 have hcube:∀ W,Keeps w1 W → Calls Tryz.prog 157 #[.pointer (some ⟨sb,0,none⟩),.int .u8 1,.int .i64 0,.int .u16 (2 ^ 0),.int .u16 0] W fun r w'=>r=.returned (.tuple #[.agg #[.int .u8 (⟨0,2⟩:Edge).tag,.int .u32 (⟨0,2⟩:Edge).to],.int .u8 0]) ∧ Upd F W w' ∧ StoreRep (Grow F W w') w' sb exSt:=fun W hW=>by
  have:=cube_calls (hS.keeps hW) 1 0 1 0 (by decide) (by decide) (by decide) (by decide) (by decide) (by decide) (by decide) (by decide) (by decide) (by decide)
  change Calls _ _ _ W fun e w'=>e=.returned (.tuple #[.agg #[.int .u8 (cubeGo 1 0 1 0 2 (St.new 2 20) (oneE 1 2)).1.tag,.int .u32 (cubeGo 1 0 1 0 2 (St.new 2 20) (oneE 1 2)).1.to],.int .u8 (cubeGo 1 0 1 0 2 (St.new 2 20) (oneE 1 2)).2.1]) ∧ Upd F W w' ∧ StoreRep (Grow F W w') w' sb (cubeGo 1 0 1 0 2 (St.new 2 20) (oneE 1 2)).2.2 at this
  rw [ex_cube] at this
  exact this
 have HVAR:=Lib.hid (buildVar_calls hS hO hn 1 (by decide) 0 0 rfl ⟨0,2⟩ 0 exSt hcube)
 have HO:=Lib.hid hO
 have HD:=Lib.hid hd
 have HF:=Lib.hid hF
 have HFo:=Lib.hid hFo
 have HKW:=Lib.hid hkw
 have HLT:=Lib.hid hS.lt
 clear hcube hn hS hO hd hF hFo hkw hI HST hk1
 go_wp2_with fail
 refine HVAR.out.mono ?_
 rintro r w2 ⟨F2,rfl,hu2,hS2,hsub2⟩
 have hO2:OrdRep Fo w2 ob [0,1]:=HO.out.keep hu2 (fun k hk hh=>HD.out k hh hk)
 have hd2:∀ k,F2 k → ¬ Fo k:=fun k hk hh=>by
  rcases hsub2 k hk with q | q
  ·exact HD.out k q hh
  ·have:=HO.out.lt k hh;omega
 have hkw2:Keeps w w2:=HKW.out.new hu2 (fun j hj=>by have:=HF.out j hj;simp only [World.size_alloc] at this;omega)
 have hF2:∀ k,F2 k → w.heap.size ≤ k:=fun k hk=>by
  rcases hsub2 k hk with q | q
  ·have:=HF.out k q;simp only [World.size_alloc] at this;omega
  ·have:=HKW.out.size;omega
 have hSW:∀ (W:World) (B:Nat),Keeps w2 W → w2.heap.size ≤ B → W.cell? ⟨B,0,none⟩=some (.int .u8 1) → W.cell? ⟨B,1,none⟩=some (.int .u8 0) → W.cell? ⟨B,2,none⟩=some (.int .u32 2) →
   Calls Tryz.prog 129 #[.pointer (some ⟨sb,0,none⟩),.pointer (some ⟨ob,0,none⟩),.int .i64 0,.slice (some ⟨B,0,none⟩) 1 1] W (AllOut F2 Fo W sb ob exSt [0,1] [0] [(1,⟨0,2⟩)] 6):=fun W B hW hB b0 b1 b2=>by
  have:=swapSwap_calls (ps:=[0,1]) (rs:=[(1,⟨0,2⟩)]) (c:=6) (hS2.keeps hW) (hO2.keeps hW) hd2 0 (some ⟨B,0,none⟩) 1 (fun W' hW' i r hr=>by
   have nB:¬ (F2 B ∨ Fo B):=fun hh=>by
    rcases hh with hh | hh
    ·have:=hS2.lt _ hh;omega
    ·have:=hO2.lt _ hh;omega
   rcases i with _ | i
   ·simp at hr
    subst hr
    exact ⟨by decide,⟨by decide,by decide⟩,B,0,rfl,hW'.cellAt nB b0,hW'.cellAt nB b1,hW'.cellAt nB b2⟩
   ·simp at hr) (by decide) (fun _ _=>by decide) (by decide) (by decide) (by decide)
  refine this.mono fun r w' hh=>?_
  rcases hh with ⟨hc,_⟩ | ⟨_,hh⟩
  ·exact absurd (by decide +kernel) hc
  ·exact hh
 have HSW:=Lib.hid hSW
 have HF2:=Lib.hid hF2
 have HKW2:=Lib.hid hkw2
 clear hSW hkw2 hF2 hO2 hd2 hS2 hsub2 hu2 HVAR
 go_wp2_with fail
 refine (HSW.out _ (w2.heap.size + 1) (((Keeps.refl _).alloc _).alloc _) (by omega) (by simp [go_sem]) (by simp [go_sem]) (by simp [go_sem])).mono ?_
 rintro r w3 ⟨g,es,M',F3,rfl,hRow,hg,hrts,hS3,hsub3,hng,hO3,hu3,hwt⟩
 obtain ⟨x,rfl⟩:∃ x,es=[x]:=by
  have:=hrts.1
  match es,this with
  | [x],_=>exact ⟨x,rfl⟩
 have hro:=hrts.2 0 (1,⟨0,2⟩) x rfl rfl
 have g1:w3.cell? ⟨g,1,none⟩=some (.int .u32 x.to):=by simpa using (hRow.cell (i:=0) (e:=x) rfl).2
 have hlook:=ex_plain hwt.wf hwt.ext (by have h1:=hwt.len;have h2:exSt.len=1:=(by decide);simp at h1;omega) hS3.fit0 hro
 have hget:=fun (W:World) (hW:Keeps w3 W)=>store_get (hS3.keeps hW) x.to hro.ok.2.2
 rw [hlook] at hget
 have hvar:=fun (W:World) (hW:Keeps w3 W)=>ordVar_calls (hO3.keeps hW) 0 1 rfl
 have hkw3:Keeps w w3:=((HKW2.out.alloc (.cells #[.int .u8 0,.int .u32 2] 26)).alloc (.cells #[.int .u8 1,.int .u8 0,.int .u32 2] 95)).new hu3 (fun j hj=>by
  rcases hj with q | q
  ·exact HF2.out j q
  ·have:=HFo.out j q;simp only [World.size_alloc] at this;omega)
 have HGET:=Lib.hid hget
 have HV:=Lib.hid hvar
 have HK3:=Lib.hid hkw3
 clear hget hvar hkw3 hlook hro hRow hrts hS3 hsub3 hng hO3 hu3 hwt HSW
 go_wp2_with (first | (go_at_call 99;refine (HGET.out _ (by (exact kp))).mono ?_;rintro e w4 ⟨rfl,hk4⟩) | (go_at_call 130;refine (HV.out _ (by (exact kp))).mono ?_;rintro e w5 ⟨rfl,rfl⟩) | fail)
 go_ret
 exact ⟨rfl,by have hkw:=HK3.out;(exact kp)⟩

end Go.Proofs.YtiifimnpmbfihaaGreat
