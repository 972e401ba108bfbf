/-
  law19.Is and law19.Stays.
-/
import Derived.Test.YtfpjogpjocedaaaGreatPBuildW
import Derived.Deep.CutBlock
namespace Go.Proofs.YtfpjogpjocedaaaGreat
set_option linter.unusedSimpArgs false
set_option linter.unusedVariables false
set_option maxHeartbeats 600000
open Go.RowKit

theorem kRight_of {M:St} {f:Int} {e:Edge} {l:Int} (hf:1 ≤ f ∧ f ≤ 5) (hl:M.leads f e l=true) (hr:rightK M f e l):kRight M f e l=true:=by
 have hff:f=1 ∨ f=2 ∨ f=3 ∨ f=4 ∨ f=5:=by omega
 rcases hff with rfl | rfl | rfl | rfl | rfl
 ·exact hl
 ·exact hl
 ·exact hr (.inl rfl)
 ·exact hr (.inr (.inl rfl))
 ·exact hr (.inr (.inr rfl))

structure Sit (F Fo:Nat → Prop) (w:World) (sb ob:Nat) (M:St) (ps:List Int):Prop where
 rep:StoreRep F w sb M
 ord:OrdRep Fo w ob ps
 dis:∀ k,F k → ¬ Fo k
 n:M.n=(ps.length:Int)
 room:M.room < 1048576

theorem Sit.keeps {F Fo:Nat → Prop} {w w':World} {sb ob:Nat} {M:St} {ps:List Int} (h:Sit F Fo w sb ob M ps) (hk:Keeps w w'):Sit F Fo w' sb ob M ps:=⟨h.rep.keeps hk,h.ord.keeps hk,h.dis,h.n,h.room⟩

set_option maxRecDepth 100000 in
theorem buildOf_calls {F Fo:Nat → Prop} {w:World} {sb ob:Nat} {M:St} {ps ws:List Int} (h:StoreRep F w sb M) (ho:OrdRep Fo w ob ps) (hd:∀ k,F k → ¬ Fo k) (hn:M.n=(ps.length:Int)) (f:Int) (hf:isFormB f=true)
  (aw:Option Addr) (len cap:Nat) (hl:ws.length=len) (hl2:len ≤ 1048576) (hW:WordsAt w aw ws) (hnw:∀ b off,aw=some ⟨b,off,none⟩ → ¬ F b) (hok:setOkB (ps.length:Int) ws=true) (hroom:M.len + ((2 ^ ps.length - 1:Nat):Int) ≤ M.room) :
  Calls Tryz.prog 23 #[.pointer (some ⟨sb,0,none⟩),.pointer (some ⟨ob,0,none⟩),.int .u8 f,.agg #[.int .i64 (ps.length:Int),.slice aw len cap]] w (BldOut f F w sb M (hasB ws) ps 0 0):=by
 have hp:=permB_iff.1 ho.perm
 have hmy:=fun (W:World) (hk:Keeps w W)=>buildMay_calls (h.keeps hk) (ho.keeps hk) hn f hf
 have hw0:0 < ws.length:=by have:=(setOkB_iff.1 hok).2.1;omega
 have hfr:=fun (W:World) (bb:Nat) (hk:Keeps w W) (hb:w.heap.size ≤ bb) (c0:W.cell? ⟨bb,0,none⟩=some (.pointer (some ⟨sb,0,none⟩))) (c1:W.cell? ⟨bb,1,none⟩=some (.pointer (some ⟨ob,0,none⟩))) (c2:W.cell? ⟨bb,2,none⟩=some (.int .u8 f)) (c3:W.cell? ⟨bb,3,none⟩=some (.int .i64 (ps.length:Int))) (c4:W.cell? ⟨bb,4,none⟩=some (.slice aw len cap))=>by
  have hnb:¬ F bb:=fun hh=>by have:=h.lt _ hh;omega
  have hctx:BCtx F Fo W sb ob bb f ps.length ps ws aw len cap:=⟨c0,c1,c2,c3,c4,hnb,hW.keeps hk,hnw,ho.keeps hk,fun k h1 h2=>hd k h2 h1⟩
  have:=bfrom_calls f hf hl hl2 hok rfl hp.2.1 ps [] rfl F W M 0 (h.keeps hk) hctx (Nat.pow_pos (by decide)) hn hroom
  exact this
 have hvs:=fun (W:World) (hk:Keeps w W)=>store_vars (h.keeps hk)
 have hrt:=fun (W:World) (hk:Keeps w W)=>setRight_calls (ps.length:Int) aw len cap ws W hl hl2 (hW.keeps hk)
 rw [hok] at hrt
 rw [hn] at hvs
 have hlt:=h.lt
 have HLT:=Lib.hid hlt
 obtain ⟨n,hnn⟩:∃ n,n=ps.length:=⟨_,rfl⟩
 rw [← hnn] at hfr hvs hrt ⊢
 have HMY:=Lib.hid hmy
 have HFR:=Lib.hid hfr
 have HVS:=Lib.hid hvs
 have HRT:=Lib.hid hrt
 have n16:n ≤ 16:=by have:=hp.1;omega
 clear h ho hd hn hl hW hnw hok hroom hp hmy hw0 hfr hvs hrt hlt hnn
 go_enter Tryz.func23,Tryz.ntmps23
 go_wp2_with fail
 refine (HMY.out _ (by (exact kp))).mono ?_
 rintro r w1 ⟨rfl,hk1⟩
 have k0:=hk1.cell (a:=⟨w.heap.size,0,none⟩) (v:=.int .i64 (n:Int)) (by simp [go_sem])
 have k1:=hk1.cell (a:=⟨w.heap.size,1,none⟩) (v:=.slice aw len cap) (by simp [go_sem])
 have z0:=hk1.cell (a:=⟨w.heap.size + 1,0,none⟩) (v:=.int .u8 0) (by simp [go_sem])
 have z1:=hk1.cell (a:=⟨w.heap.size + 1,1,none⟩) (v:=.int .u32 0) (by simp [go_sem])
 have zf:=fun o:Nat=>hk1.frz (a:=⟨w.heap.size + 1,o,none⟩) (by simp) (by simp [go_sem])
 have s1:=hk1.size
 simp only [World.size_alloc] at s1
 have hkw:Keeps w w1:=(((Keeps.refl w).alloc _).alloc _).trans hk1
 go_wp2_with fail
 have HVs:=Lib.hid (fun (W:World) (hW:Keeps w1 W)=>HVS.out W (hkw.trans hW))
 have HRt:=Lib.hid (fun (W:World) (hW:Keeps w1 W)=>HRT.out W (hkw.trans hW))
 have k0k:=KWorld.cell k0
 have k1k:=KWorld.cell k1
 refine wp_region_keeps (w1) (by kernel_rfl) (by kernel_rfl) (by (exact kp)) ?_;(repeat (go_big_quiet_step ((first | (go_at_call 59;with_reducible refine Calls.keepsK (HRt.out _ (KWorld.keep _))) | (go_at_call 44;with_reducible refine Calls.sameK (HVs.out _ (KWorld.keep _)))))));refine wpQuiet_nil ?_;rintro wq ⟨⟨_,hkq⟩,rfl⟩;try dsimp only
 replace k0:=hkq.cell k0
 replace k1:=hkq.cell k1
 replace z0:=hkq.cell z0
 replace z1:=hkq.cell z1
 replace zf:=fun o:Nat=>hkq.frz (a:=⟨w.heap.size + 1,o,none⟩) (by dsimp only;omega) (zf o)
 have s2:=hkq.size
 have hkw2:=hkw.trans hkq
 clear k0k k1k
 go_wp2_with fail
 obtain ⟨W4,hW4⟩:∃ W4,W4=wq.alloc (.cells #[.pointer (some ⟨sb,0,none⟩),.pointer (some ⟨ob,0,none⟩),.int .u8 f,.int .i64 (n:Int),.slice aw len cap] 122):=⟨_,rfl⟩
 have k4:Keeps wq W4:=by rw [hW4];exact (Keeps.refl _).alloc _
 have hb0:W4.cell? ⟨wq.heap.size,0,none⟩=some (.pointer (some ⟨sb,0,none⟩)):=by rw [hW4];simp [go_sem]
 have hb1:W4.cell? ⟨wq.heap.size,1,none⟩=some (.pointer (some ⟨ob,0,none⟩)):=by rw [hW4];simp [go_sem]
 have hb2:W4.cell? ⟨wq.heap.size,2,none⟩=some (.int .u8 f):=by rw [hW4];simp [go_sem]
 have hb3:W4.cell? ⟨wq.heap.size,3,none⟩=some (.int .i64 (n:Int)):=by rw [hW4];simp [go_sem]
 have hb4:W4.cell? ⟨wq.heap.size,4,none⟩=some (.slice aw len cap):=by rw [hW4];simp [go_sem]
 have s4:W4.heap.size=wq.heap.size + 1:=by rw [hW4];simp
 rw [← hW4]
 clear hW4
 have y0:=k4.cell z0
 have y1:=k4.cell z1
 have yf:=fun o:Nat=>k4.frz (a:=⟨w.heap.size + 1,o,none⟩) (by dsimp only;omega) (zf o)
 refine (HFR.out W4 wq.heap.size (hkw2.trans k4) hkw2.size hb0 hb1 hb2 hb3 hb4).mono ?_
 rintro r w3 ⟨e,M',rfl,hok,hbt,hgr,hst⟩
 have nF:¬ F (w.heap.size + 1):=fun hf=>by have:=HLT.out _ hf;omega
 replace y0:=hst.cell nF y0
 replace y1:=hst.cell nF y1
 replace yf:=fun o:Nat=>hst.frz (b:=w.heap.size + 1) (o:=o) (by omega) nF (yf o)
 have hwl:w.heap.size + 1 < w3.heap.size:=by have:=hst.upd.size;omega
 have u3:=(Stood.after (hkw2.trans k4) hst).upd
 obtain ⟨⟨F3,r3,sub3⟩,-⟩:=hst
 have nF3:¬ F3 (w.heap.size + 1):=fun hf=>by
  rcases sub3 _ hf with q | q
  ·exact nF q
  ·omega
 have sub3':∀ j,F3 j → F j ∨ w.heap.size ≤ j:=fun j hj=>by
  rcases sub3 j hj with q | q
  ·exact .inl q
  ·right;have:=hkw2.size;omega
 have HST:=Lib.hid (Stood.putAt r3 sub3' u3 nF3 (Nat.le_succ _))
 have HOK:=Lib.hid hok
 have HBT:=Lib.hid hbt
 have HGR:=Lib.hid hgr
 clear hok hbt hgr r3 sub3 sub3' u3 nF3
 go_wp2_with fail
 all_goals refine bodyPost_ret (v:=.tuple #[.agg #[.int .u8 e.tag,.int .u32 e.to],.int .u8 0]) (by simp [results,Tryz.results23,go_sem,hwl,y0,y1]) rfl ?_
 all_goals refine ⟨e,M',rfl,HOK.out,HBT.out,HGR.out,?_⟩
 all_goals first | exact (HST.out _ _) | exact (HST.out _ _).keeps (by (exact kp))

def hasT (n:Nat) (has:Nat → Bool):List Bool:=(List.range (2 ^ n)).map has

theorem hasT_get {n:Nat} {has:Nat → Bool} {X:Nat} (h:X < 2 ^ n):(hasT n has)[X]?=some (has X):=by
 unfold hasT
 rw [List.getElem?_map,List.getElem?_range h]
 rfl

theorem tabP_hasT {M:St} {f:Int} {ps:List Int} {x:Edge} {has:Nat → Bool} (hp:permB ps=true) (hn:M.n=(ps.length:Int)) (h:tabE M f x 0=bldT has ps 0):tabP M ps f x=hasT ps.length has:=by
 apply List.ext_getElem?
 intro X
 by_cases hX:X < 2 ^ ps.length
 ·rw [tabP_get hX,← tabE_dnN hn,h,bldT_dnN,putV_all hp hX,hasT_get hX]
 ·rw [List.getElem?_eq_none (by rw [tabP_len];omega),List.getElem?_eq_none (by unfold hasT;simp;omega)]

theorem sit_built {F Fo:Nat → Prop} {W w':World} {sb ob:Nat} {M M':St} {ps:List Int} {k:Int} (hS:Sit F Fo W sb ob M ps) (hg:GrownBy M M' k) (hst:Stood F W w' sb M'):∃ F',Sit F' Fo w' sb ob M' ps ∧ (∀ j,F' j → F j ∨ W.heap.size ≤ j) ∧ Upd (fun j=>F j ∨ Fo j) W w':=by
 obtain ⟨⟨F',r,sub⟩,u⟩:=hst
 refine ⟨F',⟨r,hS.ord.keep u (fun k h1 h2=>hS.dis k h2 h1),fun k h1 h2=>?_,by rw [hg.ext.n];exact hS.n,by rw [hg.room];exact hS.room⟩,sub,u.mono (fun k _ h=>.inl h)⟩
 rcases sub k h1 with q | q
 ·exact hS.dis k q h2
 ·have:=hS.ord.lt k h2;omega

structure Stands (M:St) (f:Int) (ps:List Int) (has:Nat → Bool) (x:Edge):Prop where
 ok:x.ok
 lead:M.leads f x 0=true
 right:rightK M f x 0
 tab:tabP M ps f x=hasT ps.length has

theorem built_stands {M:St} {f:Int} {ps:List Int} {has:Nat → Bool} {x:Edge} (hw:M.wf) (hf:1 ≤ f ∧ f ≤ 5) (hp:permB ps=true) (hn:M.n=(ps.length:Int)) (hx:x.ok) (h:BuiltAt f M has ps 0 0 x):Stands M f ps has x:=
 ⟨hx,h.1.leads hw hf (by omega),h.2,tabP_hasT hp hn (h.1.means hw hf _ _ _ _ (by omega) (Int.le_refl _))⟩

open Go.ChangeShapes Go.WideShapes Go.ChangeAt Go.RowKit Go.Joins Go.Deep

def IsBytes (w:World) (a:Option Addr) (len cap:Nat) (bs:List Int):Prop:=IsU8s w a len bs ∧ len ≤ cap ∧ (a=none → cap=0)

theorem open_bytes {H:Type} {enc:TypeId × Value → H} {W:World} {base:Nat} {spare:Nat → Bool} {held:Bool} {a:Option Addr} {len cap:Nat} {d:DataW H} {p:List MemPlace}
  (h:DataW.Trod enc Tryz.prog W base spare held 24 (.slice a len cap) d p):∃ bs:List Int,IsBytes W a len cap bs:=by
 obtain ⟨bs,hb⟩:=open_u8s h
 refine ⟨bs,hb,?_⟩
 obtain ⟨fuel,hf⟩:=h
 rcases open_slice Tryz.underlying24 hf with ⟨hcs,_⟩ | ⟨x,l,c,m,n,D,Pl,hcs,_,hl,_,hm,_,hi⟩
 ·simp [Value.cells] at hcs
  obtain ⟨rfl,rfl,rfl⟩:=hcs
  exact ⟨Nat.le_refl _,fun _=>rfl⟩
 ·simp [Value.cells] at hcs
  obtain ⟨rfl,rfl,rfl⟩:=hcs
  exact ⟨hl,fun h=>by cases h⟩

theorem IsBytes.at' {w:World} {a:Option Addr} {len cap:Nat} {bs:List Int} (h:IsBytes w a len cap bs):bs.length=len ∧ BsAt w a bs ∧ IsBs bs ∧ len ≤ cap:=by
 refine ⟨h.1.1,fun i x hx=>(h.1.2 i x hx).2.2,fun x hx=>?_,h.2.1⟩
 obtain ⟨i,hi⟩:=List.getElem?_of_mem hx
 have:=h.1.2 i x hi
 exact ⟨this.1,this.2.1⟩

end Go.Proofs.YtfpjogpjocedaaaGreat
