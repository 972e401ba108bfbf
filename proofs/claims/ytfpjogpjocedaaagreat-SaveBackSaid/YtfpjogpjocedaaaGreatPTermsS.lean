/-
  Plainly: the document's reading of bytes, in a store with room for as many nodes as bytes: just the same bytes are good.
-/
import Derived.Test.YtfpjogpjocedaaaGreatPBuildW
import Derived.Test.YtfpjogpjocedaaaGreatPTextX
namespace Go.Proofs.YtfpjogpjocedaaaGreat
set_option linter.unusedSimpArgs false
set_option linter.unusedVariables false
set_option maxHeartbeats 600000

theorem putL_len:∀ (l:List Rec) (M:St) (ids:List Int),M.len ≤ (putL l M ids).2.1.len ∧ (putL l M ids).2.1.len ≤ M.len + (l.length:Int):=by
 intro l
 induction l with
 | nil=>intro M ids;exact ⟨Int.le_refl _,by simp [putL]⟩
 | cons x l ih=>
  intro M ids
  unfold putL
  have h1:=findSt_len M (atRec ids x)
  split
  ·have h2:=ih (M.findSt (atRec ids x)) (ids ++ [M.findId (atRec ids x)])
   rw [List.length_cons]
   push_cast
   omega
  ·rw [List.length_cons]
   push_cast
   show M.len ≤ M.len ∧ M.len ≤ _
   omega

theorem putL_solid:∀ (l:List Rec) (M:St) (ids:List Int),M.solid → (putL l M ids).2.1.solid:=by
 intro l
 induction l with
 | nil=>intro M ids h;exact h
 | cons x l ih=>
  intro M ids h
  unfold putL
  split
  ·exact ih _ _ (solid_find h _)
  ·exact h

theorem new_solid (n r:Int):(St.new n r).solid:=⟨rfl,fun o ho=>by cases ho⟩

theorem new_len (n r:Int):(St.new n r).len=0:=rfl

open Go.RowKit

theorem kRight_of {M:St} {f:Int} {e:Edge} {l:Int} (hf:1 ≤ f ∧ f ≤ 5) (hl:M.leads f e l=true) (hr:rightK M f e l):kRight M f e l=true:=by
 have hff:f=1 ∨ f=2 ∨ f=3 ∨ f=4 ∨ f=5:=by omega
 rcases hff with rfl | rfl | rfl | rfl | rfl
 ·exact hl
 ·exact hl
 ·exact hr (.inl rfl)
 ·exact hr (.inr (.inl rfl))
 ·exact hr (.inr (.inr rfl))

structure Sit (F Fo:Nat → Prop) (w:World) (sb ob:Nat) (M:St) (ps:List Int):Prop where
 rep:StoreRep F w sb M
 ord:OrdRep Fo w ob ps
 dis:∀ k,F k → ¬ Fo k
 n:M.n=(ps.length:Int)
 room:M.room < 1048576

theorem Sit.keeps {F Fo:Nat → Prop} {w w':World} {sb ob:Nat} {M:St} {ps:List Int} (h:Sit F Fo w sb ob M ps) (hk:Keeps w w'):Sit F Fo w' sb ob M ps:=⟨h.rep.keeps hk,h.ord.keeps hk,h.dis,h.n,h.room⟩

set_option maxRecDepth 100000 in
theorem buildOf_calls {F Fo:Nat → Prop} {w:World} {sb ob:Nat} {M:St} {ps ws:List Int} (h:StoreRep F w sb M) (ho:OrdRep Fo w ob ps) (hd:∀ k,F k → ¬ Fo k) (hn:M.n=(ps.length:Int)) (f:Int) (hf:isFormB f=true)
  (aw:Option Addr) (len cap:Nat) (hl:ws.length=len) (hl2:len ≤ 1048576) (hW:WordsAt w aw ws) (hnw:∀ b off,aw=some ⟨b,off,none⟩ → ¬ F b) (hok:setOkB (ps.length:Int) ws=true) (hroom:M.len + ((2 ^ ps.length - 1:Nat):Int) ≤ M.room) :
  Calls Tryz.prog 23 #[.pointer (some ⟨sb,0,none⟩),.pointer (some ⟨ob,0,none⟩),.int .u8 f,.agg #[.int .i64 (ps.length:Int),.slice aw len cap]] w (BldOut f F w sb M (hasB ws) ps 0 0):=by
 have hp:=permB_iff.1 ho.perm
 have hmy:=fun (W:World) (hk:Keeps w W)=>buildMay_calls (h.keeps hk) (ho.keeps hk) hn f hf
 have hw0:0 < ws.length:=by have:=(setOkB_iff.1 hok).2.1;omega
 have hfr:=fun (W:World) (bb:Nat) (hk:Keeps w W) (hb:w.heap.size ≤ bb) (c0:W.cell? ⟨bb,0,none⟩=some (.pointer (some ⟨sb,0,none⟩))) (c1:W.cell? ⟨bb,1,none⟩=some (.pointer (some ⟨ob,0,none⟩))) (c2:W.cell? ⟨bb,2,none⟩=some (.int .u8 f)) (c3:W.cell? ⟨bb,3,none⟩=some (.int .i64 (ps.length:Int))) (c4:W.cell? ⟨bb,4,none⟩=some (.slice aw len cap))=>by
  have hnb:¬ F bb:=fun hh=>by have:=h.lt _ hh;omega
  have hctx:BCtx F Fo W sb ob bb f ps.length ps ws aw len cap:=⟨c0,c1,c2,c3,c4,hnb,hW.keeps hk,hnw,ho.keeps hk,fun k h1 h2=>hd k h2 h1⟩
  have:=bfrom_calls f hf hl hl2 hok rfl hp.2.1 ps [] rfl F W M 0 (h.keeps hk) hctx (Nat.pow_pos (by decide)) hn hroom
  exact this
 have hvs:=fun (W:World) (hk:Keeps w W)=>store_vars (h.keeps hk)
 have hrt:=fun (W:World) (hk:Keeps w W)=>setRight_calls (ps.length:Int) aw len cap ws W hl hl2 (hW.keeps hk)
 rw [hok] at hrt
 rw [hn] at hvs
 have hlt:=h.lt
 have HLT:=Lib.hid hlt
 obtain ⟨n,hnn⟩:∃ n,n=ps.length:=⟨_,rfl⟩
 rw [← hnn] at hfr hvs hrt ⊢
 have HMY:=Lib.hid hmy
 have HFR:=Lib.hid hfr
 have HVS:=Lib.hid hvs
 have HRT:=Lib.hid hrt
 have n16:n ≤ 16:=by have:=hp.1;omega
 clear h ho hd hn hl hW hnw hok hroom hp hmy hw0 hfr hvs hrt hlt hnn
 go_enter Tryz.func23,Tryz.ntmps23
 go_wp2_with fail
 refine (HMY.out _ (by (exact kp))).mono ?_
 rintro r w1 ⟨rfl,hk1⟩
 have k0:=hk1.cell (a:=⟨w.heap.size,0,none⟩) (v:=.int .i64 (n:Int)) (by simp [go_sem])
 have k1:=hk1.cell (a:=⟨w.heap.size,1,none⟩) (v:=.slice aw len cap) (by simp [go_sem])
 have z0:=hk1.cell (a:=⟨w.heap.size + 1,0,none⟩) (v:=.int .u8 0) (by simp [go_sem])
 have z1:=hk1.cell (a:=⟨w.heap.size + 1,1,none⟩) (v:=.int .u32 0) (by simp [go_sem])
 have zf:=fun o:Nat=>hk1.frz (a:=⟨w.heap.size + 1,o,none⟩) (by simp) (by simp [go_sem])
 have s1:=hk1.size
 simp only [World.size_alloc] at s1
 have hkw:Keeps w w1:=(((Keeps.refl w).alloc _).alloc _).trans hk1
 go_wp2_with fail
 have HVs:=Lib.hid (fun (W:World) (hW:Keeps w1 W)=>HVS.out W (hkw.trans hW))
 have HRt:=Lib.hid (fun (W:World) (hW:Keeps w1 W)=>HRT.out W (hkw.trans hW))
 have k0k:=KWorld.cell k0
 have k1k:=KWorld.cell k1
 refine wp_region_keeps (w1) (by kernel_rfl) (by kernel_rfl) (by (exact kp)) ?_;(repeat (go_big_quiet_step ((first | (go_at_call 59;with_reducible refine Calls.keepsK (HRt.out _ (KWorld.keep _))) | (go_at_call 44;with_reducible refine Calls.sameK (HVs.out _ (KWorld.keep _)))))));refine wpQuiet_nil ?_;rintro wq ⟨⟨_,hkq⟩,rfl⟩;try dsimp only
 replace k0:=hkq.cell k0
 replace k1:=hkq.cell k1
 replace z0:=hkq.cell z0
 replace z1:=hkq.cell z1
 replace zf:=fun o:Nat=>hkq.frz (a:=⟨w.heap.size + 1,o,none⟩) (by dsimp only;omega) (zf o)
 have s2:=hkq.size
 have hkw2:=hkw.trans hkq
 clear k0k k1k
 go_wp2_with fail
 obtain ⟨W4,hW4⟩:∃ W4,W4=wq.alloc (.cells #[.pointer (some ⟨sb,0,none⟩),.pointer (some ⟨ob,0,none⟩),.int .u8 f,.int .i64 (n:Int),.slice aw len cap] 122):=⟨_,rfl⟩
 have k4:Keeps wq W4:=by rw [hW4];exact (Keeps.refl _).alloc _
 have hb0:W4.cell? ⟨wq.heap.size,0,none⟩=some (.pointer (some ⟨sb,0,none⟩)):=by rw [hW4];simp [go_sem]
 have hb1:W4.cell? ⟨wq.heap.size,1,none⟩=some (.pointer (some ⟨ob,0,none⟩)):=by rw [hW4];simp [go_sem]
 have hb2:W4.cell? ⟨wq.heap.size,2,none⟩=some (.int .u8 f):=by rw [hW4];simp [go_sem]
 have hb3:W4.cell? ⟨wq.heap.size,3,none⟩=some (.int .i64 (n:Int)):=by rw [hW4];simp [go_sem]
 have hb4:W4.cell? ⟨wq.heap.size,4,none⟩=some (.slice aw len cap):=by rw [hW4];simp [go_sem]
 have s4:W4.heap.size=wq.heap.size + 1:=by rw [hW4];simp
 rw [← hW4]
 clear hW4
 have y0:=k4.cell z0
 have y1:=k4.cell z1
 have yf:=fun o:Nat=>k4.frz (a:=⟨w.heap.size + 1,o,none⟩) (by dsimp only;omega) (zf o)
 refine (HFR.out W4 wq.heap.size (hkw2.trans k4) hkw2.size hb0 hb1 hb2 hb3 hb4).mono ?_
 rintro r w3 ⟨e,M',rfl,hok,hbt,hgr,hst⟩
 have nF:¬ F (w.heap.size + 1):=fun hf=>by have:=HLT.out _ hf;omega
 replace y0:=hst.cell nF y0
 replace y1:=hst.cell nF y1
 replace yf:=fun o:Nat=>hst.frz (b:=w.heap.size + 1) (o:=o) (by omega) nF (yf o)
 have hwl:w.heap.size + 1 < w3.heap.size:=by have:=hst.upd.size;omega
 have u3:=(Stood.after (hkw2.trans k4) hst).upd
 obtain ⟨⟨F3,r3,sub3⟩,-⟩:=hst
 have nF3:¬ F3 (w.heap.size + 1):=fun hf=>by
  rcases sub3 _ hf with q | q
  ·exact nF q
  ·omega
 have sub3':∀ j,F3 j → F j ∨ w.heap.size ≤ j:=fun j hj=>by
  rcases sub3 j hj with q | q
  ·exact .inl q
  ·right;have:=hkw2.size;omega
 have HST:=Lib.hid (Stood.putAt r3 sub3' u3 nF3 (Nat.le_succ _))
 have HOK:=Lib.hid hok
 have HBT:=Lib.hid hbt
 have HGR:=Lib.hid hgr
 clear hok hbt hgr r3 sub3 sub3' u3 nF3
 go_wp2_with fail
 all_goals refine bodyPost_ret (v:=.tuple #[.agg #[.int .u8 e.tag,.int .u32 e.to],.int .u8 0]) (by simp [results,Tryz.results23,go_sem,hwl,y0,y1]) rfl ?_
 all_goals refine ⟨e,M',rfl,HOK.out,HBT.out,HGR.out,?_⟩
 all_goals first | exact (HST.out _ _) | exact (HST.out _ _).keeps (by (exact kp))

theorem unf_ext {f:Int} {M M':St} (hE:Ext M M') (hF:Fine f M) {n:Nat} {e:Edge} {l:Int} (h:At f M e l n):unfS f M' n e=unfS f M n e:=
 unfS_of (unf_agree hF (roots:=[e.to]) (fun id hid=>by
  cases hk:look M.cs id with
  | none=>exact absurd hk hid.some
  | some r=>exact hE.sub _ _ hk) n e l h (fun hl=>Reaches.root (by simp) hl))

theorem right_text {f:Int} (hf:1 ≤ f ∧ f ≤ 5) {M:St} (hF:Fine f M) {k:Nat} {x:Edge} (hl:M.leads f x 0=true) (hr:rightK M f x 0) (hto:0 ≤ x.to) (hfit:Fit0 M) (hn:M.n=(k:Int)) (hlen:M.len + ((2 ^ k:Nat):Int) ≤ 1048576):unfS f M (k + 1) x=termK f k (tabE M f x 0) 0:=by
 obtain ⟨M',x1,x2,x3,x4,x5,x6⟩:=right_isT (k:=k) hf hF.wf hlen hto hfit hl hr (Int.le_refl _) (by omega)
 have h1:=twoK x2 hf x6 (by rw [x1.n];omega) (Int.le_refl _) k (Nat.le_refl _)
 rw [← h1]
 exact (unf_ext x1 hF (l:=0) ⟨hl,hto,by push_cast;omega⟩).symm

def hasT (n:Nat) (has:Nat → Bool):List Bool:=(List.range (2 ^ n)).map has

theorem hasT_get {n:Nat} {has:Nat → Bool} {X:Nat} (h:X < 2 ^ n):(hasT n has)[X]?=some (has X):=by
 unfold hasT
 rw [List.getElem?_map,List.getElem?_range h]
 rfl

theorem tabP_hasT {M:St} {f:Int} {ps:List Int} {x:Edge} {has:Nat → Bool} (hp:permB ps=true) (hn:M.n=(ps.length:Int)) (h:tabE M f x 0=bldT has ps 0):tabP M ps f x=hasT ps.length has:=by
 apply List.ext_getElem?
 intro X
 by_cases hX:X < 2 ^ ps.length
 ·rw [tabP_get hX,← tabE_dnN hn,h,bldT_dnN,putV_all hp hX,hasT_get hX]
 ·rw [List.getElem?_eq_none (by rw [tabP_len];omega),List.getElem?_eq_none (by unfold hasT;simp;omega)]

theorem tabE_hasT {M:St} {f:Int} {ps:List Int} {x:Edge} {has:Nat → Bool} (hp:permB ps=true) (hn:M.n=(ps.length:Int)) (h:tabP M ps f x=hasT ps.length has):tabE M f x 0=bldT has ps 0:=by
 apply List.ext_getElem?
 intro y
 have hl:(tabE M f x 0).length=2 ^ ps.length:=by rw [tabE_len];congr 1;omega
 by_cases hy:y < 2 ^ ps.length
 ·obtain ⟨X,hX,rfl⟩:=dnN_onto hp hy
  have h1:=tabP_get (M:=M) (f:=f) (e:=x) hX
  rw [h,hasT_get hX] at h1
  rw [tabE_dnN hn,← h1,bldT_dnN,putV_all hp hX]
 ·rw [List.getElem?_eq_none (by omega),List.getElem?_eq_none (by rw [bldT_len];omega)]

theorem sit_built {F Fo:Nat → Prop} {W w':World} {sb ob:Nat} {M M':St} {ps:List Int} {k:Int} (hS:Sit F Fo W sb ob M ps) (hg:GrownBy M M' k) (hst:Stood F W w' sb M'):∃ F',Sit F' Fo w' sb ob M' ps ∧ (∀ j,F' j → F j ∨ W.heap.size ≤ j) ∧ Upd (fun j=>F j ∨ Fo j) W w':=by
 obtain ⟨⟨F',r,sub⟩,u⟩:=hst
 refine ⟨F',⟨r,hS.ord.keep u (fun k h1 h2=>hS.dis k h2 h1),fun k h1 h2=>?_,by rw [hg.ext.n];exact hS.n,by rw [hg.room];exact hS.room⟩,sub,u.mono (fun k _ h=>.inl h)⟩
 rcases sub k h1 with q | q
 ·exact hS.dis k q h2
 ·have:=hS.ord.lt k h2;omega

structure Stands (M:St) (f:Int) (ps:List Int) (has:Nat → Bool) (x:Edge):Prop where
 ok:x.ok
 lead:M.leads f x 0=true
 right:rightK M f x 0
 tab:tabP M ps f x=hasT ps.length has

theorem built_stands {M:St} {f:Int} {ps:List Int} {has:Nat → Bool} {x:Edge} (hw:M.wf) (hf:1 ≤ f ∧ f ≤ 5) (hp:permB ps=true) (hn:M.n=(ps.length:Int)) (hx:x.ok) (h:BuiltAt f M has ps 0 0 x):Stands M f ps has x:=
 ⟨hx,h.1.leads hw hf (by omega),h.2,tabP_hasT hp hn (h.1.means hw hf _ _ _ _ (by omega) (Int.le_refl _))⟩

def BoolsIn (w:World) (a:Option Addr) (ts:List Bool):Prop:=∀ i b,ts[i]?=some b → ∃ g off,a=some ⟨g,off,none⟩ ∧ w.cell? ⟨g,off + i,none⟩=some (.bool b)

theorem BoolsIn.keeps {w w':World} {a:Option Addr} {ts:List Bool} (h:BoolsIn w a ts) (hk:Keeps w w'):BoolsIn w' a ts:=fun i b hb=>by
 obtain ⟨g,off,ha,hc⟩:=h i b hb
 exact ⟨g,off,ha,hk.cell hc⟩

def setT (n:Nat) (ws:List Int):List Bool:=(List.range (2 ^ n)).map (hasB ws)

theorem setT_len (n:Nat) (ws:List Int):(setT n ws).length=2 ^ n:=by unfold setT;simp

theorem setT_get {n:Nat} {ws:List Int} {x:Nat} (h:x < 2 ^ n):(setT n ws)[x]?=some (hasB ws x):=by
 unfold setT
 rw [List.getElem?_map,List.getElem?_range h]
 rfl

theorem info_boolT:(Tryz.prog.info? 4).map (fun i=>(i.zero,i.size,i.bytes))=some (some (.bool false),1,1):=by kernel_rfl

set_option maxRecDepth 100000 in
set_option maxHeartbeats 2000000 in
theorem tab09_calls (a0:Option Addr) (cap0:Nat) (ps:List Int) (at':Option Addr) (capt:Nat) (ts:List Bool) (w:World) (hI:IntsAt w a0 ps) (hp:permB ps=true) (hT:BoolsIn w at' ts) (hl:ts.length=2 ^ ps.length) :
  Calls Tryz.prog 67 #[.slice a0 ps.length cap0,.slice at' (2 ^ ps.length) capt] w fun e w'=>∃ B bs,e=.returned (.slice (some ⟨B,0,none⟩) (2 ^ ps.length) (2 ^ ps.length)) ∧ BoolsAt w' B bs ∧ bs.length=2 ^ ps.length ∧ (∀ X,X < 2 ^ ps.length → bs[dnN X ps]?=ts[X]?) ∧ Keeps w w':=by
 obtain ⟨h16,hrng,-⟩:=permB_iff.1 hp
 have hdn:=fun (X:Nat) (hX:X ≤ 65535) (W:World) (hW:Keeps w W)=>down_calls a0 cap0 ps W (hI.keeps hW) h16 (fun x hx=>by have:=hrng x hx;omega) X hX
 have hlt:=fun (X:Nat)=>dnN_lt X ps
 have hinj:=fun (X Y:Nat) (hX:X < 2 ^ ps.length) (hY:Y < 2 ^ ps.length) (h:dnN X ps=dnN Y ps)=>dnN_inj hp hX hY h
 have hp16:2 ^ ps.length ≤ 2 ^ 16:=Nat.pow_le_pow_right (by decide) h16
 have e16:(2:Nat) ^ 16=65536:=rfl
 obtain ⟨p,hpp⟩:∃ p,p=2 ^ ps.length:=⟨_,rfl⟩
 rw [← hpp] at hl hp16 ⊢
 simp only [← hpp] at hlt hinj
 rw [e16] at hp16
 obtain ⟨n,hn⟩:∃ n,n=ps.length:=⟨_,rfl⟩
 rw [← hn] at hdn ⊢
 obtain ⟨j0,hj,jz0,jz1,jz2⟩:=info_parts info_boolT
 have HDN:=Lib.hid hdn
 have HLT:=Lib.hid hlt
 have HINJ:=Lib.hid hinj
 have HT:=Lib.hid hT
 have HL:=Lib.hid hl
 clear hI hp hT hl h16 hrng hdn hlt hinj hpp hn e16
 go_enter Tryz.func67,Tryz.ntmps67
 go_wp2_with (first
  | (at_make;refine wpList_make_full _ rfl _ _ 61 rfl w.heap.size 4 j0 (.bool false) 1 Tryz.underlying61 hj jz0 jz1 .i64 .i64 (p:Int) (p:Int) p rfl rfl rfl rfl (by rw [jz2];omega) (by unfold maxLen;omega) (by simp) ?_;intro w1 hown1 hg1)
  | fail)
 have HB1:=Lib.hid (bools_made hown1)
 have hkk:Keeps w w1:=⟨hg1.os,hg1.tape,hg1.output,hg1.size,fun i hi=>hg1.block i hi (by simp)⟩
 have HKK:=Lib.hid hkk
 clear hown1 hg1 hkk
 go_wp2_with fail
 go_loopg [6] p (fun gk s6 wr=>∃ (x:Nat) (bs:List Bool),x + gk=p ∧ s6=.int .i64 (x:Int) ∧ bs.length=p ∧ BoolsAt wr w.heap.size bs ∧ (∀ X,X < x → bs[dnN X ps]?=ts[X]?) ∧ Upd (fun j=>j=w.heap.size) w1 wr)
 case atStart=>exact ⟨0,_,by omega,rfl,by simp,HB1.out,fun X hX=>by omega,Upd.refl _ _⟩
 case round=>
  obtain ⟨x,bs,hx,rfl,hbl,hB,hag,hu⟩:=hrel
  have HB:=Lib.hid hB
  have HBL:=Lib.hid hbl
  have HAG:=Lib.hid hag
  have HU:=Lib.hid hu
  have hkw:=HKK.out.new hu (fun k hk=>by omega)
  have HKW:=Lib.hid hkw
  clear hB hbl hag hu hkw
  by_cases hlt:x < p
  ·have HDX:=Lib.hid (fun (W:World) (hW:Keeps wr W)=>HDN.out x (by omega) W (HKW.out.trans hW))
   have hdlt:=HLT.out x
   obtain ⟨b,hb⟩:∃ b,ts[x]?=some b:=⟨_,List.getElem?_eq_getElem (by rw [HL.out];exact hlt)⟩
   obtain ⟨g,off,rfl,hc0⟩:=HT.out x b hb
   have hc:=HKW.out.cell hc0
   have hgl:=lt_of_cell hc0
   dsimp only at hgl
   obtain ⟨D,hD⟩:∃ D,D=dnN x ps:=⟨_,rfl⟩
   rw [← hD] at HDX hdlt
   obtain ⟨z,hz⟩:∃ z,bs[D]?=some z:=⟨_,List.getElem?_eq_getElem (by rw [HBL.out];exact hdlt)⟩
   have c1:=HB.out.cell hz
   have f1:=HB.out.frozen D
   have hne:g ≠ w.heap.size:=by omega
   have hne2:w.heap.size ≠ g:=by omega
   have HDD:=Lib.hid hD
   have HBB:=Lib.hid hb
   have hDp:D < p:=hdlt
   have hbl:=HB.out.lt
   clear hb hc0 hD hz hdlt
   go_wp2_with fail
   go_region_held3 (fun w'=>w'.cell? ⟨g,off + x,none⟩=some (.bool b)) (go_keep) ((go_at_call 117;refine (HDX.out _ (by (exact kp))).mono ?_;rintro e5 w5 ⟨rfl,rfl⟩))
   all_goals (try go_wp2_with fail)
   all_goals go_roundg (gk - 1)
   all_goals (try (show gk - 1 < gk;omega))
   all_goals refine ⟨x + 1,bs.set D b,by omega,by simp,by rw [List.length_set,HBL.out],?_,fun X hX=>?_,?_⟩
   all_goals first
    | exact (HU.out.setCell (p:=⟨w.heap.size,D,none⟩) (.inl rfl) _).drew
    | exact HU.out.drew.setCell (p:=⟨w.heap.size,D,none⟩) (.inl rfl) _
    | exact HU.out.setCell (p:=⟨w.heap.size,D,none⟩) (.inl rfl) _
    | exact ((HB.out.set D b).keep (Keeps.upd ((Keeps.refl _).drew) (fun _=>False)) (fun h=>h))
    | (by_cases e:X=x
       ·subst e
        rw [← HDD.out,List.getElem?_set_self (by rw [HBL.out];exact hDp),HBB.out]
       ·have hne3:D ≠ dnN X ps:=fun e2=>e (HINJ.out X x (by omega) hlt (e2.symm.trans HDD.out))
        rw [List.getElem?_set_ne hne3]
        exact HAG.out X (by omega))
  ·have hxp:x=p:=by omega
   subst hxp
   go_wp2_with fail
   go_ret
   exact ⟨w.heap.size,bs,rfl,HB.out,HBL.out,HAG.out,HKW.out⟩

theorem tab_bldT {ps ws:List Int} {bs:List Bool} (hp:permB ps=true) (hl:bs.length=2 ^ ps.length) (h:∀ X,X < 2 ^ ps.length → bs[dnN X ps]?=(setT ps.length ws)[X]?):bs=bldT (hasB ws) ps 0:=by
 apply List.ext_getElem?
 intro y
 by_cases hy:y < 2 ^ ps.length
 ·obtain ⟨X,hX,rfl⟩:=dnN_onto hp hy
  rw [h X hX,setT_get hX,bldT_dnN,putV_all hp hX]
 ·rw [List.getElem?_eq_none (by omega),List.getElem?_eq_none (by rw [bldT_len];omega)]

set_option maxRecDepth 100000 in
theorem term18_calls (a0:Option Addr) (cap0:Nat) (ps ws:List Int) (at':Option Addr) (capt:Nat) (f:Int) (hf:1 ≤ f ∧ f ≤ 5) (w:World) (hI:IntsAt w a0 ps) (hp:permB ps=true) (h6:ps.length ≤ 6) (hT:BoolsIn w at' (setT ps.length ws)) :
  Calls Tryz.prog 28 #[.slice a0 ps.length cap0,.int .u8 f,.slice at' (2 ^ ps.length) capt] w fun e w'=>e=.returned (.string (termK f ps.length (bldT (hasB ws) ps 0) 0)) ∧ Keeps w w':=by
 have h64:2 ^ ps.length ≤ 2 ^ 6:=Nat.pow_le_pow_right (by decide) h6
 have e64:(2:Nat) ^ 6=64:=rfl
 have ht:=fun (W:World) (hW:Keeps w W)=>tab09_calls a0 cap0 ps at' capt (setT ps.length ws) W (hI.keeps hW) hp (hT.keeps hW) (setT_len _ _)
 have hbs:=fun (bs:List Bool) (hl:bs.length=2 ^ ps.length) (h:∀ X,X < 2 ^ ps.length → bs[dnN X ps]?=(setT ps.length ws)[X]?)=>tab_bldT hp hl h
 have htm:=fun (B:Nat) (W:World) (hB:BoolsAt W B (bldT (hasB ws) ps 0))=>termK_calls f hf ps.length (by omega) 0 (2 ^ ps.length) (bldT (hasB ws) ps 0) 0 W (ktabS hB) (bldT_len _ _ _) (Nat.le_refl _) (by omega) (by omega) (by omega)
 obtain ⟨T,hTT⟩:∃ T,T=bldT (hasB ws) ps 0:=⟨_,rfl⟩
 rw [← hTT] at hbs htm ⊢
 obtain ⟨S,hS⟩:∃ S,S=setT ps.length ws:=⟨_,rfl⟩
 rw [← hS] at ht hbs
 obtain ⟨n,hn⟩:∃ n,n=ps.length:=⟨_,rfl⟩
 rw [← hn] at ht hbs htm ⊢
 obtain ⟨s,hs⟩:∃ s,s=termK f n T 0:=⟨_,rfl⟩
 rw [← hs] at htm ⊢
 have HT:=Lib.hid ht
 have HBS:=Lib.hid hbs
 have HTM:=Lib.hid htm
 clear ht hbs htm hI hp hT h6 h64 e64 hTT hS hn hs hf
 go_enter Tryz.func28,Tryz.ntmps28
 go_wp2_with fail
 refine (HT.out _ (by (exact kp))).mono ?_
 rintro e w1 ⟨B,bs,rfl,hB,hbl,hag,hk1⟩
 have hbe:=HBS.out bs hbl hag
 subst hbe
 have HT1:=Lib.hid (HTM.out B _ hB)
 clear hB hbl hag
 go_wp2_with fail
 refine HT1.out.mono ?_
 rintro e w2 ⟨rfl,hk2⟩
 go_wp2_with fail
 go_ret
 exact ⟨rfl,by (exact kp)⟩

theorem setT_words {n:Nat} {ts:List Bool} (hl:ts.length=2 ^ n):setT n (wordsL ts)=ts:=by
 apply List.ext_getElem?
 intro x
 by_cases hx:x < 2 ^ n
 ·rw [setT_get hx,hasB_words (by omega),List.getD_eq_getElem?_getD,List.getElem?_eq_getElem (by omega)]
  rfl
 ·rw [List.getElem?_eq_none (by rw [setT_len];omega),List.getElem?_eq_none (by omega)]

theorem boolsIn_at {w:World} {B n:Nat} {bs:List Bool} (h:BoolsAt w B bs) (hl:bs.length=2 ^ n):BoolsIn w (some ⟨B,0,none⟩) (setT n (wordsL bs)):=by
 rw [setT_words hl]
 exact fun i b hb=>⟨B,0,rfl,by rw [Nat.zero_add];exact h.cell hb⟩

set_option maxRecDepth 100000 in
theorem is18_calls {F:Nat → Prop} {w:World} {sb:Nat} {M:St} {ps ws:List Int} {x:Edge} (h:StoreRep F w sb M) (a0:Option Addr) (cap0:Nat) (hI:IntsAt w a0 ps) (hp:permB ps=true) (h6:ps.length ≤ 6) (hn:M.n=(ps.length:Int)) (f:Int) (hf:1 ≤ f ∧ f ≤ 5) (hx:x.ok) (hld:M.leads f x 0=true) (hrt:rightK M f x 0) (tw:unfS f M (ps.length + 1) x=termK f ps.length (bldT (hasB ws) ps 0) 0) (at':Option Addr) (capt:Nat) (hT:BoolsIn w at' (setT ps.length ws)) :
  Calls Tryz.prog 26 #[.pointer (some ⟨sb,0,none⟩),.slice a0 ps.length cap0,.int .u8 f,.agg #[.int .u8 x.tag,.int .u32 x.to],.slice at' (2 ^ ps.length) capt] w fun r w'=>r=.returned (.bool true) ∧ Keeps w w':=by
 have hlk:(0:Int) + (ps.length:Int)=M.n:=by omega
 have hrg:=fun (W:World) (hW:Keeps w W)=>canon_right (h.keeps hW) f x 0 hx
 rw [kRight_of hf hld hrt] at hrg
 have hun:=fun (W:World) (hW:Keeps w W)=>unfK_calls (h.keeps hW) (by omega) f hf (ps.length + 1) (by omega) x hx (lead_tag hld (by omega))
 rw [show ((ps.length + 1:Nat):Int) - 1=(ps.length:Int) by omega] at hun
 have htm:=fun (W:World) (hW:Keeps w W)=>term18_calls a0 cap0 ps ws at' capt f hf W (hI.keeps hW) hp h6 (hT.keeps hW)
 rw [← tw] at htm
 obtain ⟨s,hs⟩:∃ s,s=unfS f M (ps.length + 1) x:=⟨_,rfl⟩
 rw [← hs] at hun htm
 obtain ⟨p,hpp⟩:∃ p,p=2 ^ ps.length:=⟨_,rfl⟩
 rw [← hpp] at htm ⊢
 obtain ⟨n,hnn⟩:∃ n,n=ps.length:=⟨_,rfl⟩
 rw [← hnn] at hun htm h6 ⊢
 have k0:(w.alloc (.cells #[.int .u8 x.tag,.int .u32 x.to] 37)).cell? ⟨w.heap.size,0,none⟩=some (.int .u8 x.tag):=by simp [go_sem]
 have k1:(w.alloc (.cells #[.int .u8 x.tag,.int .u32 x.to] 37)).cell? ⟨w.heap.size,1,none⟩=some (.int .u32 x.to):=by simp [go_sem]
 have kk:Keeps w (w.alloc (.cells #[.int .u8 x.tag,.int .u32 x.to] 37)):=(Keeps.refl _).alloc _
 obtain ⟨W1,hW1⟩:∃ W1,W1=w.alloc (.cells #[.int .u8 x.tag,.int .u32 x.to] 37):=⟨_,rfl⟩
 rw [← hW1] at k0 k1 kk
 have HRg:=Lib.hid (fun (W:World) (hW:Keeps W1 W)=>hrg W (kk.trans hW))
 have HUn:=Lib.hid (fun (W:World) (hW:Keeps W1 W)=>hun W (kk.trans hW))
 have HTm:=Lib.hid (fun (W:World) (hW:Keeps W1 W)=>htm W (kk.trans hW))
 have HW1:=Lib.hid hW1
 clear h hI hp hn hrt hT hld hrg hun htm tw hs hpp hnn hlk hW1
 go_enter Tryz.func26,Tryz.ntmps26
 go_wp2_with fail
 rw [← HW1.out]
 refine (HRg.out _ (Keeps.refl _)).mono ?_
 rintro e w2 ⟨rfl,hk2⟩
 replace k0:=hk2.cell k0
 replace k1:=hk2.cell k1
 have hbl:w.heap.size < w2.heap.size:=by have:=lt_of_cell k0;exact this
 go_wp2_with fail
 refine (HUn.out _ hk2).mono ?_
 rintro e w3 ⟨rfl,hk3⟩
 go_wp2_with fail
 refine (HTm.out _ (hk2.trans hk3)).mono ?_
 rintro e w4 ⟨rfl,hk4⟩
 go_wp2_with fail
 go_ret
 exact ⟨by simp,kk.trans ((hk2.trans hk3).trans hk4)⟩

open Go Go.RowKit

theorem BsRow.shape {base:Nat} {w:World} {v:Value} {bs:List Int} (h:BsRow base w v bs) (hp:0 < bs.length):∃ g cap,v=.slice (some ⟨g,0,none⟩) bs.length cap ∧ base ≤ g ∧ bs.length ≤ cap ∧ g < w.heap.size:=by
 rcases h.2 with ⟨_,hn⟩ | ⟨g,cap,cur,h0,hb,hg,hnc,_⟩
 ·omega
 ·exact ⟨g,cap,h0,hb,hnc,lt_of_heap hg⟩

def ex28:St:=⟨[some ⟨1,0,0,⟨0,0⟩,⟨0,1⟩⟩],[],1,5⟩

theorem ex28_cube:cubeGo 1 0 1 0 1 (St.new 1 5) (oneE 1 1)=(⟨0,2⟩,0,ex28):=by kernel_rfl

theorem ex28_num:numM ex28 2 []=[2]:=by decide +kernel

theorem ex28_bytes:saveB ex28 [0] 1 ⟨0,2⟩=[1,1,0,1,0,0,1,2]:=by
 have hl:look ex28.cs 2=some ⟨1,0,0,⟨0,0⟩,⟨0,1⟩⟩:=rfl
 unfold saveB
 show putB ex28.n.toNat ++ putB (1:Int).toNat ++ List.flatMap (fun x:Int=>putB x.toNat) [0] ++ putB (numM ex28 2 []).length ++ recsB ex28 1 (numM ex28 2 []) ++ edgeB 1 (numM ex28 2 []) ⟨0,2⟩=_
 rw [ex28_num]
 unfold recsB
 rw [List.flatMap_cons,List.flatMap_nil,List.flatMap_cons,List.flatMap_nil,hl]
 unfold recB edgeB
 simp only [grec]
 rw [show (ex28.n).toNat=1 from rfl,show (0:Int).toNat=0 from rfl,show (1:Int).toNat=1 from rfl,show ([2]:List Int).length=1 from rfl]
 simp [putB_low,List.idxOf]

theorem ex28_code:saveCode ex28 1 1 ⟨0,2⟩=0:=by
 unfold saveCode
 have h1:ex28.n=((1:Nat):Int):=rfl
 have h2:isFormB 1=true:=by decide
 have h3:kRight ex28 1 ⟨0,2⟩ 0=true:=by
  unfold kRight
  rw [if_pos rfl]
  decide
 rw [if_pos h1,if_pos h2,if_pos h3]

set_option maxRecDepth 100000 in
set_option maxHeartbeats 1000000 in
theorem l28_alive (w:World):Calls Tryz.prog 7 #[] w fun e w'=>e=.returned (.bool true) ∧ Keeps w w':=by
 have hp:permB [0]=true:=by decide
 have HST:=Lib.hid (fun (W:World) (a:Option Addr) (hI:IntsAt W a [0])=>stage_calls 5 a 1 [0] W hI hp (by decide) (by decide))
 clear hp
 go_enter Tryz.func7,Tryz.ntmps7
 go_wp2_with fail
 have hI:IntsAt (w.alloc (.cells #[.int .i64 0] 3)) (some ⟨w.heap.size,0,none⟩) [0]:=fun i x hx=>by
  rcases i with _ | i
  ·simp at hx;subst hx;exact ⟨_,0,rfl,by simp [go_sem]⟩
  ·simp at hx
 refine (HST.out _ _ hI).mono ?_
 rintro e w1 ⟨sb,ob,F,Fo,rfl,hk1,hS,hO,hd,hF,hFo⟩
 have hkw:Keeps w w1:=((Keeps.refl _).alloc _).trans hk1
 have hn:(St.new (([0]:List Int).length:Int) 5).n=(([0]:List Int).length:Int):=rfl
 have hcube:∀ W,Keeps w1 W → Calls Tryz.prog 69 #[.pointer (some ⟨sb,0,none⟩),.int .u8 1,.int .i64 0,.int .u16 (2 ^ 0),.int .u16 0] W fun r w'=>r=.returned (.tuple #[.agg #[.int .u8 (⟨0,2⟩:Edge).tag,.int .u32 (⟨0,2⟩:Edge).to],.int .u8 0]) ∧ Upd F W w' ∧ StoreRep (Grow F W w') w' sb ex28:=fun W hW=>by
  have:=cube_calls (hS.keeps hW) 1 0 1 0 (by decide) (by decide) (by decide) (by decide) (by decide) (by decide) (by decide) (by decide) (by decide) (by decide)
  change Calls _ _ _ W fun e w'=>e=.returned (.tuple #[.agg #[.int .u8 (cubeGo 1 0 1 0 1 (St.new 1 5) (oneE 1 1)).1.tag,.int .u32 (cubeGo 1 0 1 0 1 (St.new 1 5) (oneE 1 1)).1.to],.int .u8 (cubeGo 1 0 1 0 1 (St.new 1 5) (oneE 1 1)).2.1]) ∧ Upd F W w' ∧ StoreRep (Grow F W w') w' sb (cubeGo 1 0 1 0 1 (St.new 1 5) (oneE 1 1)).2.2 at this
  rw [ex28_cube] at this
  exact this
 have HVAR:=Lib.hid (buildVar_calls hS hO hn 1 (by decide) 0 0 rfl ⟨0,2⟩ 0 ex28 hcube)
 have HO:=Lib.hid hO
 have HD:=Lib.hid hd
 have HF:=Lib.hid hF
 have HFo:=Lib.hid hFo
 have HKW:=Lib.hid hkw
 have HLT:=Lib.hid hS.lt
 clear hcube hn hS hO hd hF hFo hkw hI HST hk1
 go_wp2_with fail
 refine HVAR.out.mono ?_
 rintro r w2 ⟨F2,rfl,hu2,hS2,hsub2⟩
 have hO2:OrdRep Fo w2 ob [0]:=HO.out.keep hu2 (fun k hk hh=>HD.out k hh hk)
 have hkw2:Keeps w w2:=HKW.out.new hu2 (fun j hj=>by have:=HF.out j hj;simp only [World.size_alloc] at this;omega)
 have HSV:=Lib.hid (fun (W:World) (hW:Keeps w2 W)=>show Calls Tryz.prog 25 #[.pointer (some ⟨sb,0,none⟩),.pointer (some ⟨ob,0,none⟩),.int .u8 1,.agg #[.int .u8 (⟨0,2⟩:Edge).tag,.int .u32 (⟨0,2⟩:Edge).to]] W fun r w'=>∃ a cap,r=.returned (.tuple #[.slice a 8 cap,.int .u8 0]) ∧ BsAt w' a [1,1,0,1,0,0,1,2] ∧ Keeps W w' from (save_calls (hS2.keeps hW) (hO2.keeps hW) 1 (by decide) ⟨0,2⟩ ⟨by decide,by decide⟩).mono fun r w' hh=>by
  rcases hh with ⟨_,v,rfl,hb,hk⟩ | ⟨hc,_⟩
  ·rw [ex28_bytes] at hb
   obtain ⟨a,cap,rfl,hat⟩:=hb.slice
   exact ⟨a,cap,rfl,hat,hk⟩
  ·exact absurd ex28_code hc)
 have HKW2:=Lib.hid hkw2
 clear hkw2 hO2 hS2 hsub2 hu2 HVAR
 go_wp2_with (first
  | (go_at_call 25;refine (HSV.out _ (by (exact kp))).mono ?_;rintro e3 w3 ⟨a3,cap3,rfl,hat,hk3⟩;have HAT:=Lib.hid hat;have HK3:=Lib.hid (HKW2.out.trans (show Keeps w2 w3 by (exact kp)));clear hat hk3 HSV)
  | (go_at_call 18;have hbt:BsAt (w3.alloc (.cells #[.int .u8 1,.int .u8 1,.int .u8 0,.int .u8 1,.int .u8 0,.int .u8 0,.int .u8 1,.int .u8 2] 5)) (some ⟨w3.heap.size,0,none⟩) [1,1,0,1,0,0,1,2]:=(fun i x hx=>by rcases i with _ | _ | _ | _ | _ | _ | _ | _ | i <;> simp at hx <;> (subst hx;exact ⟨_,0,rfl,by simp [go_sem]⟩));refine (same04_calls a3 (some ⟨w3.heap.size,0,none⟩) cap3 8 [1,1,0,1,0,0,1,2] [1,1,0,1,0,0,1,2] _ (HAT.out.keeps ((Keeps.refl _).alloc _)) hbt (by decide) (by decide)).mono ?_;rintro e4 w4 ⟨rfl,hk4⟩;clear hbt)
  | fail)
 go_ret
 exact ⟨rfl,(HK3.out.alloc _).trans hk4⟩

end Go.Proofs.YtfpjogpjocedaaaGreat
