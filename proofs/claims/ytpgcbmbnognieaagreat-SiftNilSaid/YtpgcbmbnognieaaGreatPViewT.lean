/-
  What View does, over the state (printed by wip/mk_vstore.py).
-/
import Derived.Test.YtpgcbmbnognieaaGreatPPermR
import Derived.Test.YtpgcbmbnognieaaGreatPTMakeA
namespace Go.Proofs.YtpgcbmbnognieaaGreat
set_option maxRecDepth 1000000
set_option maxHeartbeats 8000000
set_option linter.unusedSimpArgs false
set_option linter.unusedVariables false
open Go.RowKit

theorem leads_some {M:St}{f:Int}{e:Edge}{l:Int}(h:M.leads f e l=true){r:Rec}(hl:look M.cs e.to=some r):r.form=f∧l≤r.top∧e.tag≤r.top:=by
 have h2:=(look_some hl).1
 unfold St.leads at h
 rw [hl,decide_eq_false (show ¬e.to<2 by omega)] at h
 simp at h
 exact⟨h.2.1.1,h.2.1.2,h.2.2⟩

def vOut (f l:Int)(e:Edge):Edge×Edge×Int:=
 if f=1∨f=3 then(e,e,0) else if f=5 then(⟨l+1,e.to⟩,⟨0,0⟩,0) else(e,⟨0,0⟩,0)

def viewAct (M:St)(f:Int)(e:Edge)(l:Int):(Edge×Edge×Int) ⊕ Rec:=
 if l<0∨M.n≤l then .inl (⟨0,0⟩,⟨0,0⟩,3)
 else if M.leads f e l=false then .inl (⟨0,0⟩,⟨0,0⟩,1)
 else if f=5∧(e.to=0∨l<e.tag) then .inl (e,e,0)
 else match look M.cs e.to with
  | none=>.inl (vOut f l e)
  | some r=>if l<r.top then .inl (vOut f l e) else if(f=3∨f=4)∧r.bot≠r.top then .inr ⟨r.form,r.top+1,r.bot,r.lo,r.hi⟩ else .inl (r.lo,r.hi,0)

def vLo (M:St):(Edge×Edge×Int) ⊕ Rec→Edge | .inl x=>x.1 | .inr r=>foundE M 0 r
def vHi (M:St)(f:Int):(Edge×Edge×Int) ⊕ Rec→Edge | .inl x=>x.2.1 | .inr r=>if M.findErr r=0 then(if f=4 then foundE M 0 r else r.hi) else⟨0,0⟩
def vErr (M:St):(Edge×Edge×Int) ⊕ Rec→Int | .inl x=>x.2.2 | .inr r=>M.findErr r
def vSt (M:St):(Edge×Edge×Int) ⊕ Rec→St | .inl _=>M | .inr r=>M.findSt r
theorem foundE_ok {M:St}{t:Int}{r:Rec}(h:M.findErr r=0):foundE M t r=⟨t,M.findId r⟩:=if_pos h

theorem foundE_bad {M:St}{t:Int}{r:Rec}(h:¬M.findErr r=0):foundE M t r=⟨0,0⟩:=if_neg h

theorem chain_ok {M:St}{r:Rec}{f l:Int}(hr:r.ok)(h0:0≤l)(h1:l≤16)(hf:0≤f∧f≤255):(⟨f,l+1,r.bot,r.lo,r.hi⟩:Rec).ok:=
 ⟨hf,⟨by show 0≤l+1;omega,by show l+1≤255;omega⟩,hr.bot,hr.lo,hr.hi⟩

theorem cbdd_found0 {F:Nat→Prop}{w:World}{sb:Nat}{M:St}(h:StoreRep F w sb M)(r:Rec)(hr:r.ok) :
  Calls Tryz.prog 229 #[.pointer (some ⟨sb,0,none⟩),.agg #[.int .u8 r.form,.int .u8 r.top,.int .u8 r.bot,.int .u8 r.lo.tag,.int .u32 r.lo.to,.int .u8 r.hi.tag,.int .u32 r.hi.to]] w fun e w'=>e=.returned (.tuple #[.agg #[.int .u8 (foundE M 0 r).tag,.int .u32 (foundE M 0 r).to],.int .u8 (M.findErr r)])∧Upd F w w'∧StoreRep (Grow F w w') w' sb (M.findSt r):=by
 have hf:=fun(W:World) (hW:Keeps w W)=>store_find (h.keeps hW) r hr
 by_cases he:M.findErr r=0
 ·have e1:foundE M 0 r=⟨0,M.findId r⟩:=if_pos he
  rw [e1,he]
  rw [he] at hf
  refine(cfound_ok sb r (M.findId r) w h.pos h.lt (fun W W1=>StoreRep (Grow F W W1) W1 sb (M.findSt r)) hf).mono ?_
  rintro e w' ⟨rfl,W,W1,h1,h2,h3,h4⟩
  exact⟨rfl,h3.after h.lt h1 h2 h4⟩
 ·have e1:foundE M 0 r=⟨0,0⟩:=if_neg he
  rw [e1]
  refine(cfound_bad sb r (M.findId r) (M.findErr r) he w h.pos h.lt (fun W W1=>StoreRep (Grow F W W1) W1 sb (M.findSt r)) hf).mono ?_
  rintro e w' ⟨rfl,W,W1,h1,h2,h3,h4⟩
  exact⟨rfl,h3.after h.lt h1 h2 h4⟩

theorem czdd_found0 {F:Nat→Prop}{w:World}{sb:Nat}{M:St}(h:StoreRep F w sb M)(r:Rec)(hr:r.ok) :
  Calls Tryz.prog 230 #[.pointer (some ⟨sb,0,none⟩),.agg #[.int .u8 r.form,.int .u8 r.top,.int .u8 r.bot,.int .u8 r.lo.tag,.int .u32 r.lo.to,.int .u8 r.hi.tag,.int .u32 r.hi.to]] w fun e w'=>e=.returned (.tuple #[.agg #[.int .u8 (foundE M 0 r).tag,.int .u32 (foundE M 0 r).to],.int .u8 (M.findErr r)])∧Upd F w w'∧StoreRep (Grow F w w') w' sb (M.findSt r):=by
 have hf:=fun(W:World) (hW:Keeps w W)=>store_find (h.keeps hW) r hr
 by_cases he:M.findErr r=0
 ·have e1:foundE M 0 r=⟨0,M.findId r⟩:=if_pos he
  rw [e1,he]
  rw [he] at hf
  refine(zfound_ok sb r (M.findId r) w h.pos h.lt (fun W W1=>StoreRep (Grow F W W1) W1 sb (M.findSt r)) hf).mono ?_
  rintro e w' ⟨rfl,W,W1,h1,h2,h3,h4⟩
  exact⟨rfl,h3.after h.lt h1 h2 h4⟩
 ·have e1:foundE M 0 r=⟨0,0⟩:=if_neg he
  rw [e1]
  refine(zfound_bad sb r (M.findId r) (M.findErr r) he w h.pos h.lt (fun W W1=>StoreRep (Grow F W W1) W1 sb (M.findSt r)) hf).mono ?_
  rintro e w' ⟨rfl,W,W1,h1,h2,h3,h4⟩
  exact⟨rfl,h3.after h.lt h1 h2 h4⟩

def bRest (_:St)(l:Int)(lo hi:Edge):(Edge×Int) ⊕ Rec:=if lo=hi then .inl (lo,0) else .inr ⟨1,l,l,lo,hi⟩

def zRest (_:St)(l:Int)(lo hi:Edge):(Edge×Int) ⊕ Rec:=if hi.to=0 then .inl (lo,0) else .inr ⟨2,l,l,lo,hi⟩

def cRest (M:St)(l:Int)(lo hi:Edge):(Edge×Int) ⊕ Rec:=
 if lo=hi then .inl (lo,0) else match look M.cs lo.to with
  | none=>.inr ⟨3,l,l,lo,hi⟩
  | some r=>if r.top=l+1 then(if r.hi=hi then .inr ⟨3,l,r.bot,r.lo,hi⟩ else .inr ⟨3,l,l,lo,hi⟩) else .inr ⟨3,l,l,lo,hi⟩

def qRest (M:St)(l:Int)(lo hi:Edge):(Edge×Int) ⊕ Rec:=
 if hi.to=0 then .inl (lo,0) else match look M.cs lo.to with
  | none=>.inr ⟨4,l,l,lo,hi⟩
  | some r=>if lo=hi then(if r.top=l+1 then .inr ⟨4,l,r.bot,r.lo,r.hi⟩ else .inr ⟨4,l,l,lo,hi⟩) else .inr ⟨4,l,l,lo,hi⟩

def makeAct (M:St)(f l:Int)(lo hi:Edge)(rest:(Edge×Int) ⊕ Rec):(Edge×Int) ⊕ Rec:=
 if l<0∨M.n≤l then .inl (⟨0,0⟩,3)
 else if M.leads f lo (l+1)=false∨M.leads f hi (l+1)=false then .inl (⟨0,0⟩,1) else rest

def actE0 (M:St):(Edge×Int) ⊕ Rec→Edge | .inl x=>x.1 | .inr r=>foundE M 0 r

theorem rec_ok {f l b:Int}{lo hi:Edge}(hf:0≤f∧f≤255)(h0:0≤l)(h1:l≤16)(hb:0≤b∧b≤255)(hlo:lo.ok)(hhi:hi.ok):(⟨f,l,b,lo,hi⟩:Rec).ok:=
 ⟨hf,⟨h0,by show l≤255;omega⟩,hb,hlo,hhi⟩

theorem bdd_found0 {F:Nat→Prop}{w:World}{sb:Nat}{M:St}(h:StoreRep F w sb M)(r:Rec)(hr:r.ok) :
  Calls Tryz.prog 227 #[.pointer (some ⟨sb,0,none⟩),.agg #[.int .u8 r.form,.int .u8 r.top,.int .u8 r.bot,.int .u8 r.lo.tag,.int .u32 r.lo.to,.int .u8 r.hi.tag,.int .u32 r.hi.to]] w fun e w'=>e=.returned (.tuple #[.agg #[.int .u8 (foundE M 0 r).tag,.int .u32 (foundE M 0 r).to],.int .u8 (M.findErr r)])∧Upd F w w'∧StoreRep (Grow F w w') w' sb (M.findSt r):=by
 have hf:=fun(W:World) (hW:Keeps w W)=>store_find (h.keeps hW) r hr
 by_cases he:M.findErr r=0
 ·have e1:foundE M 0 r=⟨0,M.findId r⟩:=if_pos he
  rw [e1,he]
  rw [he] at hf
  refine(bfound_ok sb r (M.findId r) w h.pos h.lt (fun W W1=>StoreRep (Grow F W W1) W1 sb (M.findSt r)) hf).mono ?_
  rintro e w' ⟨rfl,W,W1,h1,h2,h3,h4⟩
  exact⟨rfl,h3.after h.lt h1 h2 h4⟩
 ·have e1:foundE M 0 r=⟨0,0⟩:=if_neg he
  rw [e1]
  refine(bfound_bad sb r (M.findId r) (M.findErr r) he w h.pos h.lt (fun W W1=>StoreRep (Grow F W W1) W1 sb (M.findSt r)) hf).mono ?_
  rintro e w' ⟨rfl,W,W1,h1,h2,h3,h4⟩
  exact⟨rfl,h3.after h.lt h1 h2 h4⟩

theorem zdd_found0 {F:Nat→Prop}{w:World}{sb:Nat}{M:St}(h:StoreRep F w sb M)(r:Rec)(hr:r.ok) :
  Calls Tryz.prog 228 #[.pointer (some ⟨sb,0,none⟩),.agg #[.int .u8 r.form,.int .u8 r.top,.int .u8 r.bot,.int .u8 r.lo.tag,.int .u32 r.lo.to,.int .u8 r.hi.tag,.int .u32 r.hi.to]] w fun e w'=>e=.returned (.tuple #[.agg #[.int .u8 (foundE M 0 r).tag,.int .u32 (foundE M 0 r).to],.int .u8 (M.findErr r)])∧Upd F w w'∧StoreRep (Grow F w w') w' sb (M.findSt r):=by
 have hf:=fun(W:World) (hW:Keeps w W)=>store_find (h.keeps hW) r hr
 by_cases he:M.findErr r=0
 ·have e1:foundE M 0 r=⟨0,M.findId r⟩:=if_pos he
  rw [e1,he]
  rw [he] at hf
  refine(yfound_ok sb r (M.findId r) w h.pos h.lt (fun W W1=>StoreRep (Grow F W W1) W1 sb (M.findSt r)) hf).mono ?_
  rintro e w' ⟨rfl,W,W1,h1,h2,h3,h4⟩
  exact⟨rfl,h3.after h.lt h1 h2 h4⟩
 ·have e1:foundE M 0 r=⟨0,0⟩:=if_neg he
  rw [e1]
  refine(yfound_bad sb r (M.findId r) (M.findErr r) he w h.pos h.lt (fun W W1=>StoreRep (Grow F W W1) W1 sb (M.findSt r)) hf).mono ?_
  rintro e w' ⟨rfl,W,W1,h1,h2,h3,h4⟩
  exact⟨rfl,h3.after h.lt h1 h2 h4⟩

theorem tview_neg (sb:Nat)(l n:Int)(v:Edge)(w:World)(hn:n≤16)(hsb:sb<w.heap.size)
  (hv:∀ W,Keeps w W→Calls Tryz.prog 67 #[.pointer (some ⟨sb,0,none⟩)] W fun e w'=>e=.returned (.int .i64 n)∧W=w')
  (h0:l<0)
  : Calls Tryz.prog 298 #[.pointer (some ⟨sb,0,none⟩),.agg #[.int .u8 v.tag,.int .u32 v.to],.int .i64 l] w fun e w'=>e=.returned (.tuple #[.agg #[.int .u8 0,.int .u32 0],.agg #[.int .u8 0,.int .u32 0],.int .u8 3])∧Keeps w w':=by
 have HV:=Lib.hid hv
 clear hv
 go_enter Tryz.func298,Tryz.ntmps298
 go_wp2_with (first|(go_at_call 67;refine(HV.out _ (by(exact kp))).mono ?_;rintro e w' ⟨rfl,rfl⟩)|fail)
 go_region
 all_goals go_wp2
 all_goals refine bodyPost_ret (v:=.tuple #[.agg #[.int .u8 0,.int .u32 0],.agg #[.int .u8 0,.int .u32 0],.int .u8 3]) (by simp [results,Tryz.results298,go_sem]) rfl ⟨rfl,by(exact kp)⟩

theorem tview_big (sb:Nat)(l n:Int)(v:Edge)(w:World)(hn:n≤16)(hsb:sb<w.heap.size)
  (hv:∀ W,Keeps w W→Calls Tryz.prog 67 #[.pointer (some ⟨sb,0,none⟩)] W fun e w'=>e=.returned (.int .i64 n)∧W=w')
  (h0:0≤l) (h1:n≤l)
  : Calls Tryz.prog 298 #[.pointer (some ⟨sb,0,none⟩),.agg #[.int .u8 v.tag,.int .u32 v.to],.int .i64 l] w fun e w'=>e=.returned (.tuple #[.agg #[.int .u8 0,.int .u32 0],.agg #[.int .u8 0,.int .u32 0],.int .u8 3])∧Keeps w w':=by
 have HV:=Lib.hid hv
 clear hv
 go_enter Tryz.func298,Tryz.ntmps298
 go_wp2_with (first|(go_at_call 67;refine(HV.out _ (by(exact kp))).mono ?_;rintro e w' ⟨rfl,rfl⟩)|fail)
 go_region
 all_goals go_wp2
 all_goals refine bodyPost_ret (v:=.tuple #[.agg #[.int .u8 0,.int .u32 0],.agg #[.int .u8 0,.int .u32 0],.int .u8 3]) (by simp [results,Tryz.results298,go_sem]) rfl ⟨rfl,by(exact kp)⟩

theorem tview_no (sb:Nat)(l n:Int)(v:Edge)(w:World)(hn:n≤16)(hsb:sb<w.heap.size)
  (hv:∀ W,Keeps w W→Calls Tryz.prog 67 #[.pointer (some ⟨sb,0,none⟩)] W fun e w'=>e=.returned (.int .i64 n)∧W=w')
  (h0:0≤l) (h1:l<n)
  (hl:∀ W,Keeps w W→Calls Tryz.prog 130 #[.pointer (some ⟨sb,0,none⟩),.int .u8 5,.agg #[.int .u8 v.tag,.int .u32 v.to],.int .i64 l] W fun e w'=>e=.returned (.bool false)∧Keeps W w')
  : Calls Tryz.prog 298 #[.pointer (some ⟨sb,0,none⟩),.agg #[.int .u8 v.tag,.int .u32 v.to],.int .i64 l] w fun e w'=>e=.returned (.tuple #[.agg #[.int .u8 0,.int .u32 0],.agg #[.int .u8 0,.int .u32 0],.int .u8 1])∧Keeps w w':=by
 have HV:=Lib.hid hv
 clear hv
 have HL:=Lib.hid hl
 clear hl
 go_enter Tryz.func298,Tryz.ntmps298
 go_wp2_with (first|(go_at_call 67;refine(HV.out _ (by(exact kp))).mono ?_;rintro e w' ⟨rfl,rfl⟩)|fail)
 (go_at_call 130;refine(HL.out _ (by(exact kp))).mono ?_;rintro e w1 ⟨rfl,hb⟩;have hsz:=hb.size;simp only [World.size_alloc] at hsz;have hz0:w.heap.size<w1.heap.size:=(by omega);have hz1:w.heap.size+1<w1.heap.size:=(by omega);have hz2:w.heap.size+2<w1.heap.size:=(by omega);have y0:=hb.cell (a:=⟨w.heap.size,0,none⟩) (v:=.int .u8 v.tag) (by simp [go_sem]);have y1:=hb.cell (a:=⟨w.heap.size,1,none⟩) (v:=.int .u32 v.to) (by simp [go_sem]);have x0:=hb.cell (a:=⟨w.heap.size+1,0,none⟩) (v:=.int .u8 0) (by simp [go_sem]);have x1:=hb.cell (a:=⟨w.heap.size+1,1,none⟩) (v:=.int .u32 0) (by simp [go_sem]);have z0:=hb.cell (a:=⟨w.heap.size+2,0,none⟩) (v:=.int .u8 0) (by simp [go_sem]);have z1:=hb.cell (a:=⟨w.heap.size+2,1,none⟩) (v:=.int .u32 0) (by simp [go_sem]);have xf:=fun o:Nat=>hb.frz (a:=⟨w.heap.size+1,o,none⟩) (by simp [go_sem]) (by simp [go_sem]);have zf:=fun o:Nat=>hb.frz (a:=⟨w.heap.size+2,o,none⟩) (by simp [go_sem]) (by simp [go_sem]);have hk:Keeps w w1:=(by(exact kp)))
 go_wp2_with fail
 go_region
 all_goals go_wp2
 all_goals refine bodyPost_ret (v:=.tuple #[.agg #[.int .u8 0,.int .u32 0],.agg #[.int .u8 0,.int .u32 0],.int .u8 1]) (by simp [results,Tryz.results298,go_sem,hz1,hz2,x0,x1,z0,z1]) rfl ⟨rfl,by(exact kp)⟩

theorem tview_zero (sb:Nat)(l n:Int)(t:Int)(w:World)(hn:n≤16)(hsb:sb<w.heap.size)
  (hv:∀ W,Keeps w W→Calls Tryz.prog 67 #[.pointer (some ⟨sb,0,none⟩)] W fun e w'=>e=.returned (.int .i64 n)∧W=w')
  (h0:0≤l) (h1:l<n)
  (hl:∀ W,Keeps w W→Calls Tryz.prog 130 #[.pointer (some ⟨sb,0,none⟩),.int .u8 5,.agg #[.int .u8 t,.int .u32 0],.int .i64 l] W fun e w'=>e=.returned (.bool true)∧Keeps W w')
  : Calls Tryz.prog 298 #[.pointer (some ⟨sb,0,none⟩),.agg #[.int .u8 t,.int .u32 0],.int .i64 l] w fun e w'=>e=.returned (.tuple #[.agg #[.int .u8 t,.int .u32 0],.agg #[.int .u8 t,.int .u32 0],.int .u8 0])∧Keeps w w':=by
 have HV:=Lib.hid hv
 clear hv
 have HL:=Lib.hid hl
 clear hl
 go_enter Tryz.func298,Tryz.ntmps298
 go_wp2_with (first|(go_at_call 67;refine(HV.out _ (by(exact kp))).mono ?_;rintro e w' ⟨rfl,rfl⟩)|fail)
 (go_at_call 130;refine(HL.out _ (by(exact kp))).mono ?_;rintro e w1 ⟨rfl,hb⟩;have hsz:=hb.size;simp only [World.size_alloc] at hsz;have hz0:w.heap.size<w1.heap.size:=(by omega);have hz1:w.heap.size+1<w1.heap.size:=(by omega);have hz2:w.heap.size+2<w1.heap.size:=(by omega);have y0:=hb.cell (a:=⟨w.heap.size,0,none⟩) (v:=.int .u8 t) (by simp [go_sem]);have y1:=hb.cell (a:=⟨w.heap.size,1,none⟩) (v:=.int .u32 0) (by simp [go_sem]);have x0:=hb.cell (a:=⟨w.heap.size+1,0,none⟩) (v:=.int .u8 0) (by simp [go_sem]);have x1:=hb.cell (a:=⟨w.heap.size+1,1,none⟩) (v:=.int .u32 0) (by simp [go_sem]);have z0:=hb.cell (a:=⟨w.heap.size+2,0,none⟩) (v:=.int .u8 0) (by simp [go_sem]);have z1:=hb.cell (a:=⟨w.heap.size+2,1,none⟩) (v:=.int .u32 0) (by simp [go_sem]);have xf:=fun o:Nat=>hb.frz (a:=⟨w.heap.size+1,o,none⟩) (by simp [go_sem]) (by simp [go_sem]);have zf:=fun o:Nat=>hb.frz (a:=⟨w.heap.size+2,o,none⟩) (by simp [go_sem]) (by simp [go_sem]);have hk:Keeps w w1:=(by(exact kp)))
 go_wp2_with fail
 go_region
 all_goals go_wp2
 all_goals refine bodyPost_ret (v:=.tuple #[.agg #[.int .u8 t,.int .u32 0],.agg #[.int .u8 t,.int .u32 0],.int .u8 0]) (by simp [results,Tryz.results298,go_sem,hz1,hz2,x0,x1,z0,z1]) rfl ⟨rfl,by(exact kp)⟩

theorem tview_tag (sb:Nat)(l n:Int)(v:Edge)(w:World)(hn:n≤16)(hsb:sb<w.heap.size)
  (hv:∀ W,Keeps w W→Calls Tryz.prog 67 #[.pointer (some ⟨sb,0,none⟩)] W fun e w'=>e=.returned (.int .i64 n)∧W=w')
  (h0:0≤l) (h1:l<n)
  (hl:∀ W,Keeps w W→Calls Tryz.prog 130 #[.pointer (some ⟨sb,0,none⟩),.int .u8 5,.agg #[.int .u8 v.tag,.int .u32 v.to],.int .i64 l] W fun e w'=>e=.returned (.bool true)∧Keeps W w')
  (ht1:0≤v.tag) (ht2:v.tag≤255) (hc:¬v.to=0) (ht:l<v.tag)
  : Calls Tryz.prog 298 #[.pointer (some ⟨sb,0,none⟩),.agg #[.int .u8 v.tag,.int .u32 v.to],.int .i64 l] w fun e w'=>e=.returned (.tuple #[.agg #[.int .u8 v.tag,.int .u32 v.to],.agg #[.int .u8 v.tag,.int .u32 v.to],.int .u8 0])∧Keeps w w':=by
 have HV:=Lib.hid hv
 clear hv
 have HL:=Lib.hid hl
 clear hl
 go_enter Tryz.func298,Tryz.ntmps298
 go_wp2_with (first|(go_at_call 67;refine(HV.out _ (by(exact kp))).mono ?_;rintro e w' ⟨rfl,rfl⟩)|fail)
 (go_at_call 130;refine(HL.out _ (by(exact kp))).mono ?_;rintro e w1 ⟨rfl,hb⟩;have hsz:=hb.size;simp only [World.size_alloc] at hsz;have hz0:w.heap.size<w1.heap.size:=(by omega);have hz1:w.heap.size+1<w1.heap.size:=(by omega);have hz2:w.heap.size+2<w1.heap.size:=(by omega);have y0:=hb.cell (a:=⟨w.heap.size,0,none⟩) (v:=.int .u8 v.tag) (by simp [go_sem]);have y1:=hb.cell (a:=⟨w.heap.size,1,none⟩) (v:=.int .u32 v.to) (by simp [go_sem]);have x0:=hb.cell (a:=⟨w.heap.size+1,0,none⟩) (v:=.int .u8 0) (by simp [go_sem]);have x1:=hb.cell (a:=⟨w.heap.size+1,1,none⟩) (v:=.int .u32 0) (by simp [go_sem]);have z0:=hb.cell (a:=⟨w.heap.size+2,0,none⟩) (v:=.int .u8 0) (by simp [go_sem]);have z1:=hb.cell (a:=⟨w.heap.size+2,1,none⟩) (v:=.int .u32 0) (by simp [go_sem]);have xf:=fun o:Nat=>hb.frz (a:=⟨w.heap.size+1,o,none⟩) (by simp [go_sem]) (by simp [go_sem]);have zf:=fun o:Nat=>hb.frz (a:=⟨w.heap.size+2,o,none⟩) (by simp [go_sem]) (by simp [go_sem]);have hk:Keeps w w1:=(by(exact kp)))
 go_wp2_with fail
 go_region
 all_goals go_wp2
 all_goals refine bodyPost_ret (v:=.tuple #[.agg #[.int .u8 v.tag,.int .u32 v.to],.agg #[.int .u8 v.tag,.int .u32 v.to],.int .u8 0]) (by simp [results,Tryz.results298,go_sem,hz1,hz2,x0,x1,z0,z1]) rfl ⟨rfl,by(exact kp)⟩

theorem tview_none (sb:Nat)(l n:Int)(v:Edge)(x:Rec)(w:World)(hn:n≤16)(hsb:sb<w.heap.size)
  (hv:∀ W,Keeps w W→Calls Tryz.prog 67 #[.pointer (some ⟨sb,0,none⟩)] W fun e w'=>e=.returned (.int .i64 n)∧W=w')
  (h0:0≤l) (h1:l<n)
  (hl:∀ W,Keeps w W→Calls Tryz.prog 130 #[.pointer (some ⟨sb,0,none⟩),.int .u8 5,.agg #[.int .u8 v.tag,.int .u32 v.to],.int .i64 l] W fun e w'=>e=.returned (.bool true)∧Keeps W w')
  (ht1:0≤v.tag) (ht2:v.tag≤255) (hc:¬v.to=0) (ht:v.tag≤l)
  (hg:∀ W,Keeps w W→Calls Tryz.prog 80 #[.pointer (some ⟨sb,0,none⟩),.int .u32 v.to] W fun e w'=>e=.returned (.tuple #[.agg #[.int .u8 x.form,.int .u8 x.top,.int .u8 x.bot,.int .u8 x.lo.tag,.int .u32 x.lo.to,.int .u8 x.hi.tag,.int .u32 x.hi.to],.bool false])∧Keeps W w')
  : Calls Tryz.prog 298 #[.pointer (some ⟨sb,0,none⟩),.agg #[.int .u8 v.tag,.int .u32 v.to],.int .i64 l] w fun e w'=>e=.returned (.tuple #[.agg #[.int .u8 (l+1),.int .u32 v.to],.agg #[.int .u8 0,.int .u32 0],.int .u8 0])∧Keeps w w':=by
 have HV:=Lib.hid hv
 clear hv
 have HL:=Lib.hid hl
 clear hl
 have HG:=Lib.hid hg
 clear hg
 go_enter Tryz.func298,Tryz.ntmps298
 go_wp2_with (first|(go_at_call 67;refine(HV.out _ (by(exact kp))).mono ?_;rintro e w' ⟨rfl,rfl⟩)|fail)
 (go_at_call 130;refine(HL.out _ (by(exact kp))).mono ?_;rintro e w1 ⟨rfl,hb⟩;have hsz:=hb.size;simp only [World.size_alloc] at hsz;have hz0:w.heap.size<w1.heap.size:=(by omega);have hz1:w.heap.size+1<w1.heap.size:=(by omega);have hz2:w.heap.size+2<w1.heap.size:=(by omega);have y0:=hb.cell (a:=⟨w.heap.size,0,none⟩) (v:=.int .u8 v.tag) (by simp [go_sem]);have y1:=hb.cell (a:=⟨w.heap.size,1,none⟩) (v:=.int .u32 v.to) (by simp [go_sem]);have x0:=hb.cell (a:=⟨w.heap.size+1,0,none⟩) (v:=.int .u8 0) (by simp [go_sem]);have x1:=hb.cell (a:=⟨w.heap.size+1,1,none⟩) (v:=.int .u32 0) (by simp [go_sem]);have z0:=hb.cell (a:=⟨w.heap.size+2,0,none⟩) (v:=.int .u8 0) (by simp [go_sem]);have z1:=hb.cell (a:=⟨w.heap.size+2,1,none⟩) (v:=.int .u32 0) (by simp [go_sem]);have xf:=fun o:Nat=>hb.frz (a:=⟨w.heap.size+1,o,none⟩) (by simp [go_sem]) (by simp [go_sem]);have zf:=fun o:Nat=>hb.frz (a:=⟨w.heap.size+2,o,none⟩) (by simp [go_sem]) (by simp [go_sem]);have hk:Keeps w w1:=(by(exact kp)))
 go_wp2_with fail
 ·exfalso;simp_all;omega
 (go_at_call 80;refine(HG.out _ (by(exact kp))).mono ?_;rintro e w2 ⟨rfl,hb2⟩;have hs2:=hb2.size;have xf:=fun o:Nat=>hb2.frz (a:=⟨w.heap.size+1,o,none⟩) (by dsimp only;omega) (xf o);have zf:=fun o:Nat=>hb2.frz (a:=⟨w.heap.size+2,o,none⟩) (by dsimp only;omega) (zf o);have y0:=hb2.cell y0;have y1:=hb2.cell y1;have x0:=hb2.cell x0;have x1:=hb2.cell x1;have z0:=hb2.cell z0;have z1:=hb2.cell z1;have hz0:w.heap.size<w2.heap.size:=(by omega);have hz1:w.heap.size+1<w2.heap.size:=(by omega);have hz2:w.heap.size+2<w2.heap.size:=(by omega);have hk2:Keeps w w2:=hk.trans hb2)
 go_wp2_with fail
 all_goals refine bodyPost_ret (v:=.tuple #[.agg #[.int .u8 (l+1),.int .u32 v.to],.agg #[.int .u8 0,.int .u32 0],.int .u8 0]) (by simp [results,Tryz.results298,go_sem,hz1,hz2,x0,x1,z0,z1]) rfl ⟨rfl,by(exact kp)⟩

theorem tview_up (sb:Nat)(l n:Int)(v:Edge)(x:Rec)(w:World)(hn:n≤16)(hsb:sb<w.heap.size)
  (hv:∀ W,Keeps w W→Calls Tryz.prog 67 #[.pointer (some ⟨sb,0,none⟩)] W fun e w'=>e=.returned (.int .i64 n)∧W=w')
  (h0:0≤l) (h1:l<n)
  (hl:∀ W,Keeps w W→Calls Tryz.prog 130 #[.pointer (some ⟨sb,0,none⟩),.int .u8 5,.agg #[.int .u8 v.tag,.int .u32 v.to],.int .i64 l] W fun e w'=>e=.returned (.bool true)∧Keeps W w')
  (ht1:0≤v.tag) (ht2:v.tag≤255) (hc:¬v.to=0) (ht:v.tag≤l)
  (hx:l<x.top) (hx1:0≤x.top) (hx2:x.top≤255) (hx3:0≤x.bot) (hx4:x.bot≤255)
  (hg:∀ W,Keeps w W→Calls Tryz.prog 80 #[.pointer (some ⟨sb,0,none⟩),.int .u32 v.to] W fun e w'=>e=.returned (.tuple #[.agg #[.int .u8 x.form,.int .u8 x.top,.int .u8 x.bot,.int .u8 x.lo.tag,.int .u32 x.lo.to,.int .u8 x.hi.tag,.int .u32 x.hi.to],.bool true])∧Keeps W w')
  : Calls Tryz.prog 298 #[.pointer (some ⟨sb,0,none⟩),.agg #[.int .u8 v.tag,.int .u32 v.to],.int .i64 l] w fun e w'=>e=.returned (.tuple #[.agg #[.int .u8 (l+1),.int .u32 v.to],.agg #[.int .u8 0,.int .u32 0],.int .u8 0])∧Keeps w w':=by
 have HV:=Lib.hid hv
 clear hv
 have HL:=Lib.hid hl
 clear hl
 have HG:=Lib.hid hg
 clear hg
 go_enter Tryz.func298,Tryz.ntmps298
 go_wp2_with (first|(go_at_call 67;refine(HV.out _ (by(exact kp))).mono ?_;rintro e w' ⟨rfl,rfl⟩)|fail)
 (go_at_call 130;refine(HL.out _ (by(exact kp))).mono ?_;rintro e w1 ⟨rfl,hb⟩;have hsz:=hb.size;simp only [World.size_alloc] at hsz;have hz0:w.heap.size<w1.heap.size:=(by omega);have hz1:w.heap.size+1<w1.heap.size:=(by omega);have hz2:w.heap.size+2<w1.heap.size:=(by omega);have y0:=hb.cell (a:=⟨w.heap.size,0,none⟩) (v:=.int .u8 v.tag) (by simp [go_sem]);have y1:=hb.cell (a:=⟨w.heap.size,1,none⟩) (v:=.int .u32 v.to) (by simp [go_sem]);have x0:=hb.cell (a:=⟨w.heap.size+1,0,none⟩) (v:=.int .u8 0) (by simp [go_sem]);have x1:=hb.cell (a:=⟨w.heap.size+1,1,none⟩) (v:=.int .u32 0) (by simp [go_sem]);have z0:=hb.cell (a:=⟨w.heap.size+2,0,none⟩) (v:=.int .u8 0) (by simp [go_sem]);have z1:=hb.cell (a:=⟨w.heap.size+2,1,none⟩) (v:=.int .u32 0) (by simp [go_sem]);have xf:=fun o:Nat=>hb.frz (a:=⟨w.heap.size+1,o,none⟩) (by simp [go_sem]) (by simp [go_sem]);have zf:=fun o:Nat=>hb.frz (a:=⟨w.heap.size+2,o,none⟩) (by simp [go_sem]) (by simp [go_sem]);have hk:Keeps w w1:=(by(exact kp)))
 go_wp2_with fail
 ·exfalso;simp_all;omega
 (go_at_call 80;refine(HG.out _ (by(exact kp))).mono ?_;rintro e w2 ⟨rfl,hb2⟩;have hs2:=hb2.size;have xf:=fun o:Nat=>hb2.frz (a:=⟨w.heap.size+1,o,none⟩) (by dsimp only;omega) (xf o);have zf:=fun o:Nat=>hb2.frz (a:=⟨w.heap.size+2,o,none⟩) (by dsimp only;omega) (zf o);have y0:=hb2.cell y0;have y1:=hb2.cell y1;have x0:=hb2.cell x0;have x1:=hb2.cell x1;have z0:=hb2.cell z0;have z1:=hb2.cell z1;have hz0:w.heap.size<w2.heap.size:=(by omega);have hz1:w.heap.size+1<w2.heap.size:=(by omega);have hz2:w.heap.size+2<w2.heap.size:=(by omega);have hk2:Keeps w w2:=hk.trans hb2)
 go_wp2_with fail
 all_goals refine bodyPost_ret (v:=.tuple #[.agg #[.int .u8 (l+1),.int .u32 v.to],.agg #[.int .u8 0,.int .u32 0],.int .u8 0]) (by simp [results,Tryz.results298,go_sem,hz1,hz2,x0,x1,z0,z1]) rfl ⟨rfl,by(exact kp)⟩

theorem tview_at (sb:Nat)(l n:Int)(v:Edge)(x:Rec)(w:World)(hn:n≤16)(hsb:sb<w.heap.size)
  (hv:∀ W,Keeps w W→Calls Tryz.prog 67 #[.pointer (some ⟨sb,0,none⟩)] W fun e w'=>e=.returned (.int .i64 n)∧W=w')
  (h0:0≤l) (h1:l<n)
  (hl:∀ W,Keeps w W→Calls Tryz.prog 130 #[.pointer (some ⟨sb,0,none⟩),.int .u8 5,.agg #[.int .u8 v.tag,.int .u32 v.to],.int .i64 l] W fun e w'=>e=.returned (.bool true)∧Keeps W w')
  (ht1:0≤v.tag) (ht2:v.tag≤255) (hc:¬v.to=0) (ht:v.tag≤l)
   (hx1:0≤x.top) (hx2:x.top≤255) (hx3:0≤x.bot) (hx4:x.bot≤255)
  (hg:∀ W,Keeps w W→Calls Tryz.prog 80 #[.pointer (some ⟨sb,0,none⟩),.int .u32 v.to] W fun e w'=>e=.returned (.tuple #[.agg #[.int .u8 x.form,.int .u8 l,.int .u8 x.bot,.int .u8 x.lo.tag,.int .u32 x.lo.to,.int .u8 x.hi.tag,.int .u32 x.hi.to],.bool true])∧Keeps W w')
  : Calls Tryz.prog 298 #[.pointer (some ⟨sb,0,none⟩),.agg #[.int .u8 v.tag,.int .u32 v.to],.int .i64 l] w fun e w'=>e=.returned (.tuple #[.agg #[.int .u8 x.lo.tag,.int .u32 x.lo.to],.agg #[.int .u8 x.hi.tag,.int .u32 x.hi.to],.int .u8 0])∧Keeps w w':=by
 have HV:=Lib.hid hv
 clear hv
 have HL:=Lib.hid hl
 clear hl
 have HG:=Lib.hid hg
 clear hg
 go_enter Tryz.func298,Tryz.ntmps298
 go_wp2_with (first|(go_at_call 67;refine(HV.out _ (by(exact kp))).mono ?_;rintro e w' ⟨rfl,rfl⟩)|fail)
 (go_at_call 130;refine(HL.out _ (by(exact kp))).mono ?_;rintro e w1 ⟨rfl,hb⟩;have hsz:=hb.size;simp only [World.size_alloc] at hsz;have hz0:w.heap.size<w1.heap.size:=(by omega);have hz1:w.heap.size+1<w1.heap.size:=(by omega);have hz2:w.heap.size+2<w1.heap.size:=(by omega);have y0:=hb.cell (a:=⟨w.heap.size,0,none⟩) (v:=.int .u8 v.tag) (by simp [go_sem]);have y1:=hb.cell (a:=⟨w.heap.size,1,none⟩) (v:=.int .u32 v.to) (by simp [go_sem]);have x0:=hb.cell (a:=⟨w.heap.size+1,0,none⟩) (v:=.int .u8 0) (by simp [go_sem]);have x1:=hb.cell (a:=⟨w.heap.size+1,1,none⟩) (v:=.int .u32 0) (by simp [go_sem]);have z0:=hb.cell (a:=⟨w.heap.size+2,0,none⟩) (v:=.int .u8 0) (by simp [go_sem]);have z1:=hb.cell (a:=⟨w.heap.size+2,1,none⟩) (v:=.int .u32 0) (by simp [go_sem]);have xf:=fun o:Nat=>hb.frz (a:=⟨w.heap.size+1,o,none⟩) (by simp [go_sem]) (by simp [go_sem]);have zf:=fun o:Nat=>hb.frz (a:=⟨w.heap.size+2,o,none⟩) (by simp [go_sem]) (by simp [go_sem]);have hk:Keeps w w1:=(by(exact kp)))
 go_wp2_with fail
 ·exfalso;simp_all;omega
 (go_at_call 80;refine(HG.out _ (by(exact kp))).mono ?_;rintro e w2 ⟨rfl,hb2⟩;have hs2:=hb2.size;have xf:=fun o:Nat=>hb2.frz (a:=⟨w.heap.size+1,o,none⟩) (by dsimp only;omega) (xf o);have zf:=fun o:Nat=>hb2.frz (a:=⟨w.heap.size+2,o,none⟩) (by dsimp only;omega) (zf o);have y0:=hb2.cell y0;have y1:=hb2.cell y1;have x0:=hb2.cell x0;have x1:=hb2.cell x1;have z0:=hb2.cell z0;have z1:=hb2.cell z1;have hz0:w.heap.size<w2.heap.size:=(by omega);have hz1:w.heap.size+1<w2.heap.size:=(by omega);have hz2:w.heap.size+2<w2.heap.size:=(by omega);have hk2:Keeps w w2:=hk.trans hb2)
 go_wp2_with fail
 go_region
 all_goals go_wp2
 all_goals refine bodyPost_ret (v:=.tuple #[.agg #[.int .u8 x.lo.tag,.int .u32 x.lo.to],.agg #[.int .u8 x.hi.tag,.int .u32 x.hi.to],.int .u8 0]) (by simp [results,Tryz.results298,go_sem,hz1,hz2,x0,x1,z0,z1]) rfl ⟨rfl,by(exact kp)⟩

theorem permSame_calls (n:Nat)(h:n≤16)(w:World) :
  Calls Tryz.prog 124 #[.int .i64 (n:Int)] w fun e w'=>e=.returned (.tuple #[.slice (some ⟨w.heap.size,0,none⟩) n n,.bool true])∧RowI w' w.heap.size (numsI n)∧Keeps w w':=by
 obtain⟨j0,hj,jz0,jz1,jz2⟩:=info_parts info_int
 go_enter Tryz.func124,Tryz.ntmps124
 go_wp2_with (first
  | (at_make;refine wpList_make_full _ rfl _ _ 38 rfl w.heap.size 3 j0 (.int .i64 0) 1 Tryz.underlying38 hj jz0 jz1 .i64 .i64 (n:Int) (n:Int) n rfl rfl rfl rfl (by rw [jz2];omega) (by unfold maxLen;omega) (by simp) ?_;intro w1 hown1 hg1)
  | fail)
 have HB1:=Lib.hid (rowI_made hown1)
 have hkk:Keeps w w1:=⟨hg1.os,hg1.tape,hg1.output,hg1.size,fun i hi=>hg1.block i hi (by simp)⟩
 have HKK:=Lib.hid hkk
 clear hown1 hg1 hkk
 go_loopg [5,16] n (fun gk s5 s16 wr=>∃ (d:Nat) (vs:List Int),d+gk=n∧s16=.int .i64 (d:Int)∧vs.length=n∧(∀ (j:Nat) (x:Int),j<d→vs[j]?=some x→x=(j:Int))∧RowI wr w.heap.size vs∧Upd (fun k=>k=w.heap.size) w1 wr)
 case atStart=>exact⟨0,_,by omega,rfl,by simp,fun j x hj=>by omega,HB1.out,Upd.refl _ _⟩
 case round=>
  obtain⟨d,vs,hd,rfl,hvl,hvs,hR,hu⟩:=hrel
  have HR:=Lib.hid hR
  have HU:=Lib.hid hu
  have HVL:=Lib.hid hvl
  have HVS:=Lib.hid hvs
  clear hR hu hvl hvs
  by_cases hlt:d<n
  ·obtain⟨y,hy⟩:∃ b,vs[d]?=some b:=⟨_,List.getElem?_eq_getElem (by rw [HVL.out];exact hlt)⟩
   have hcy:=HR.out.cell hy
   have hfy:=HR.out.frozen d
   clear hy
   go_wp2_with fail
   go_roundg (gk-1)
   case rel=>
    refine⟨d+1,vs.set d (d:Int),by omega,by simp,by rw [List.length_set,HVL.out],fun j x hj hx=>?_,HR.out.set d _ (by rw [HVL.out];exact hlt),HU.out.setCell (p:=⟨w.heap.size,d,none⟩) (.inl rfl) _⟩
    by_cases e:j=d
    ·subst e
     rw [List.getElem?_set_self (by rw [HVL.out];exact hlt)] at hx
     exact(Option.some.inj hx).symm
    ·rw [List.getElem?_set_ne (fun h=>e h.symm)] at hx
     exact HVS.out j x (by omega) hx
   case measure=>omega
  ·have hfin:vs=numsI n:=by
    apply List.ext_getElem?
    intro j
    by_cases hj:j<n
    ·obtain⟨y,hy⟩:∃ b,vs[j]?=some b:=⟨_,List.getElem?_eq_getElem (by rw [HVL.out];exact hj)⟩
     have:=HVS.out j y (by omega) hy
     rw [hy,this]
     unfold numsI
     rw [List.getElem?_map,List.getElem?_range hj]
     rfl
    ·rw [List.getElem?_eq_none (by rw [HVL.out];omega),List.getElem?_eq_none (by rw [numsI_len];omega)]
   have hkw:=HKK.out.new HU.out (fun k hk=>by omega)
   have hRf:=HR.out
   rw [hfin] at hRf
   have HRF:=Lib.hid hRf
   have HKW:=Lib.hid hkw
   clear hRf hkw hfin
   go_wp2_with fail
   go_ret2
   exact⟨rfl,HRF.out,HKW.out⟩

def facN:Nat→Nat
 | 0=>1
 | n+1=>(n+1)*facN n

theorem facN_pos (n:Nat):0<facN n:=by
 induction n with
 | zero=>decide
 | succ n ih=>exact Nat.mul_pos (by omega) ih

def ofGo:Nat→List Int→Nat→List Int
 | 0,_,_=>[]
 | k+1,left,r=>left.getD (r / facN k) 0::ofGo k (left.eraseIdx (r / facN k)) (r%facN k)

def ofL (n r:Nat):List Int:=ofGo n (numsI n) r

theorem ofGo_len:∀ (k:Nat) (left:List Int) (r:Nat),(ofGo k left r).length=k:=by
 intro k
 induction k with
 | zero=>intro left r;rfl
 | succ k ih=>intro left r;show(ofGo k _ _).length+1=_;rw [ih]

theorem ofL_len (n r:Nat):(ofL n r).length=n:=ofGo_len n _ r

theorem ofL_all:((List.range 6).all fun n=>(List.range (facN n)).all fun r=>permB (ofL n r))=true:=by kernel_rfl

theorem ofL_perm {n r:Nat}(hn:n≤5)(hr:r<facN n):permB (ofL n r)=true:=by
 have h:=ofL_all
 rw [List.all_eq_true] at h
 have h1:=h n (List.mem_range.2 (by omega))
 rw [List.all_eq_true] at h1
 exact h1 r (List.mem_range.2 hr)

def leastTo (sz:List Int→Nat)(n:Nat):Nat→List Int
 | 0=>ofL n 0
 | r+1=>if sz (ofL n (r+1))<sz (leastTo sz n r) then ofL n (r+1) else leastTo sz n r

def leastL (sz:List Int→Nat)(n:Nat):List Int:=leastTo sz n (facN n-1)

theorem leastTo_is (sz:List Int→Nat)(n:Nat):∀ r,∃ k,k≤r∧leastTo sz n r=ofL n k:=by
 intro r
 induction r with
 | zero=>exact⟨0,Nat.le_refl _,rfl⟩
 | succ r ih=>
  obtain⟨k,h1,h2⟩:=ih
  unfold leastTo
  split
  ·exact⟨r+1,Nat.le_refl _,rfl⟩
  ·exact⟨k,by omega,h2⟩

theorem leastTo_le (sz:List Int→Nat)(n:Nat):∀ r k,k≤r→sz (leastTo sz n r)≤sz (ofL n k):=by
 intro r
 induction r with
 | zero=>intro k hk;rw [show k=0 by omega];exact Nat.le_refl _
 | succ r ih=>
  intro k hk
  unfold leastTo
  by_cases he:k=r+1
  ·subst he
   split
   ·exact Nat.le_refl _
   ·omega
  ·have:=ih k (by omega)
   split<;>omega

theorem leastL_perm (sz:List Int→Nat){n:Nat}(hn:n≤5):permB (leastL sz n)=true∧(leastL sz n).length=n:=by
 obtain⟨k,h1,h2⟩:=leastTo_is sz n (facN n-1)
 have:=facN_pos n
 unfold leastL
 rw [h2]
 exact⟨ofL_perm hn (by omega),ofL_len n k⟩

end Go.Proofs.YtpgcbmbnognieaaGreat
