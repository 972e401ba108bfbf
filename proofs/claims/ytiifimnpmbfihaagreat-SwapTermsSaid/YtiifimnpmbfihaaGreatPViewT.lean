/-
  What View does, over the state (printed by wip/mk_vstore.py).
-/
import Derived.Test.YtiifimnpmbfihaaGreatPPermW
import Derived.Test.YtiifimnpmbfihaaGreatPTMakeA
import Derived.Lib.SliceRun
import Derived.BigRegion
namespace Go.Proofs.YtiifimnpmbfihaaGreat
set_option linter.unusedSimpArgs false
set_option linter.unusedVariables false
set_option maxHeartbeats 600000
open Go.RowKit

theorem leads_some {M:St} {f:Int} {e:Edge} {l:Int} (h:M.leads f e l=true) {r:Rec} (hl:look M.cs e.to=some r):r.form=f ∧ l ≤ r.top ∧ e.tag ≤ r.top:=by
 have h2:=(look_some hl).1
 unfold St.leads at h
 rw [hl,decide_eq_false (show ¬ e.to < 2 by omega)] at h
 simp at h
 exact ⟨h.2.1.1,h.2.1.2,h.2.2⟩

def vOut (f l:Int) (e:Edge):Edge × Edge × Int:=
 if f=1 ∨ f=3 then (e,e,0) else if f=5 then (⟨l + 1,e.to⟩,⟨0,0⟩,0) else (e,⟨0,0⟩,0)

def viewAct (M:St) (f:Int) (e:Edge) (l:Int):(Edge × Edge × Int) ⊕ Rec:=
 if l < 0 ∨ M.n ≤ l then .inl (⟨0,0⟩,⟨0,0⟩,3)
 else if M.leads f e l=false then .inl (⟨0,0⟩,⟨0,0⟩,1)
 else if f=5 ∧ (e.to=0 ∨ l < e.tag) then .inl (e,e,0)
 else match look M.cs e.to with
  | none=>.inl (vOut f l e)
  | some r=>if l < r.top then .inl (vOut f l e) else if (f=3 ∨ f=4) ∧ r.bot ≠ r.top then .inr ⟨r.form,r.top + 1,r.bot,r.lo,r.hi⟩ else .inl (r.lo,r.hi,0)

def vLo (M:St):(Edge × Edge × Int) ⊕ Rec → Edge | .inl x=>x.1 | .inr r=>foundE M 0 r
def vHi (M:St) (f:Int):(Edge × Edge × Int) ⊕ Rec → Edge | .inl x=>x.2.1 | .inr r=>if M.findErr r=0 then (if f=4 then foundE M 0 r else r.hi) else ⟨0,0⟩
def vErr (M:St):(Edge × Edge × Int) ⊕ Rec → Int | .inl x=>x.2.2 | .inr r=>M.findErr r
def vSt (M:St):(Edge × Edge × Int) ⊕ Rec → St | .inl _=>M | .inr r=>M.findSt r
theorem foundE_ok {M:St} {t:Int} {r:Rec} (h:M.findErr r=0):foundE M t r=⟨t,M.findId r⟩:=if_pos h

theorem foundE_bad {M:St} {t:Int} {r:Rec} (h:¬ M.findErr r=0):foundE M t r=⟨0,0⟩:=if_neg h

theorem chain_ok {M:St} {r:Rec} {f l:Int} (hr:r.ok) (h0:0 ≤ l) (h1:l ≤ 16) (hf:0 ≤ f ∧ f ≤ 255):(⟨f,l + 1,r.bot,r.lo,r.hi⟩:Rec).ok:=
 ⟨hf,⟨by show 0 ≤ l + 1;omega,by show l + 1 ≤ 255;omega⟩,hr.bot,hr.lo,hr.hi⟩

theorem cbdd_found0 {F:Nat → Prop} {w:World} {sb:Nat} {M:St} (h:StoreRep F w sb M) (r:Rec) (hr:r.ok) :
  Calls Tryz.prog 279 #[.pointer (some ⟨sb,0,none⟩),.agg #[.int .u8 r.form,.int .u8 r.top,.int .u8 r.bot,.int .u8 r.lo.tag,.int .u32 r.lo.to,.int .u8 r.hi.tag,.int .u32 r.hi.to]] w fun e w'=>e=.returned (.tuple #[.agg #[.int .u8 (foundE M 0 r).tag,.int .u32 (foundE M 0 r).to],.int .u8 (M.findErr r)]) ∧ Upd F w w' ∧ StoreRep (Grow F w w') w' sb (M.findSt r):=by
 have hf:=fun (W:World) (hW:Keeps w W)=>store_find (h.keeps hW) r hr
 by_cases he:M.findErr r=0
 ·have e1:foundE M 0 r=⟨0,M.findId r⟩:=if_pos he
  rw [e1,he]
  rw [he] at hf
  refine (cfound_ok sb r (M.findId r) w h.pos h.lt (fun W W1=>StoreRep (Grow F W W1) W1 sb (M.findSt r)) hf).mono ?_
  rintro e w' ⟨rfl,W,W1,h1,h2,h3,h4⟩
  exact ⟨rfl,h3.after h.lt h1 h2 h4⟩
 ·have e1:foundE M 0 r=⟨0,0⟩:=if_neg he
  rw [e1]
  refine (cfound_bad sb r (M.findId r) (M.findErr r) he w h.pos h.lt (fun W W1=>StoreRep (Grow F W W1) W1 sb (M.findSt r)) hf).mono ?_
  rintro e w' ⟨rfl,W,W1,h1,h2,h3,h4⟩
  exact ⟨rfl,h3.after h.lt h1 h2 h4⟩

theorem czdd_found0 {F:Nat → Prop} {w:World} {sb:Nat} {M:St} (h:StoreRep F w sb M) (r:Rec) (hr:r.ok) :
  Calls Tryz.prog 280 #[.pointer (some ⟨sb,0,none⟩),.agg #[.int .u8 r.form,.int .u8 r.top,.int .u8 r.bot,.int .u8 r.lo.tag,.int .u32 r.lo.to,.int .u8 r.hi.tag,.int .u32 r.hi.to]] w fun e w'=>e=.returned (.tuple #[.agg #[.int .u8 (foundE M 0 r).tag,.int .u32 (foundE M 0 r).to],.int .u8 (M.findErr r)]) ∧ Upd F w w' ∧ StoreRep (Grow F w w') w' sb (M.findSt r):=by
 have hf:=fun (W:World) (hW:Keeps w W)=>store_find (h.keeps hW) r hr
 by_cases he:M.findErr r=0
 ·have e1:foundE M 0 r=⟨0,M.findId r⟩:=if_pos he
  rw [e1,he]
  rw [he] at hf
  refine (zfound_ok sb r (M.findId r) w h.pos h.lt (fun W W1=>StoreRep (Grow F W W1) W1 sb (M.findSt r)) hf).mono ?_
  rintro e w' ⟨rfl,W,W1,h1,h2,h3,h4⟩
  exact ⟨rfl,h3.after h.lt h1 h2 h4⟩
 ·have e1:foundE M 0 r=⟨0,0⟩:=if_neg he
  rw [e1]
  refine (zfound_bad sb r (M.findId r) (M.findErr r) he w h.pos h.lt (fun W W1=>StoreRep (Grow F W W1) W1 sb (M.findSt r)) hf).mono ?_
  rintro e w' ⟨rfl,W,W1,h1,h2,h3,h4⟩
  exact ⟨rfl,h3.after h.lt h1 h2 h4⟩

def RowI (w:World) (g:Nat) (ps:List Int):Prop:=∃ cur:Array Value,w.heap[g]?=some (.cells cur 3 (0,0)) ∧ ∀ (i:Nat) (x:Int),ps[i]?=some x → cur[i]?=some (Value.int .i64 x)

theorem RowI.cell {w:World} {g:Nat} {ps:List Int} (h:RowI w g ps) {i:Nat} {x:Int} (hx:ps[i]?=some x):w.cell? ⟨g,i,none⟩=some (.int .i64 x):=by
 obtain ⟨cur,h1,h2⟩:=h
 rw [cell_of_row w g i _ _ _ h1]
 simp only [h2 i x hx]

theorem RowI.frozen {w:World} {g:Nat} {ps:List Int} (h:RowI w g ps) (i:Nat):w.frozen? ⟨g,i,none⟩=false:=by
 obtain ⟨cur,h1,h2⟩:=h
 exact frozen_of_row w g i _ _ h1

theorem RowI.lt {w:World} {g:Nat} {ps:List Int} (h:RowI w g ps):g < w.heap.size:=by
 obtain ⟨cur,h1,h2⟩:=h
 exact lt_of_heap h1

theorem RowI.keep {G:Nat → Prop} {w w':World} {g:Nat} {ps:List Int} (h:RowI w g ps) (hu:Upd G w w') (hg:¬ G g):RowI w' g ps:=by
 have hl:=h.lt
 obtain ⟨cur,h1,h2⟩:=h
 exact ⟨cur,(hu.block g hl hg).trans h1,h2⟩

theorem RowI.keeps {w w':World} {g:Nat} {ps:List Int} (h:RowI w g ps) (hk:Keeps w w'):RowI w' g ps:=h.keep (hk.upd (fun _=>False)) (fun h=>h)

theorem RowI.ints {w:World} {g:Nat} {ps:List Int} (h:RowI w g ps):IntsAt w (some ⟨g,0,none⟩) ps:=fun i x hx=>⟨g,0,rfl,by rw [Nat.zero_add];exact h.cell hx⟩

theorem RowI.set {w:World} {g:Nat} {ps:List Int} (h:RowI w g ps) (i:Nat) (y:Int) (hi:i < ps.length):RowI (w.setCell ⟨g,i,none⟩ (.int .i64 y)) g (ps.set i y):=by
 obtain ⟨cur,h1,h2⟩:=h
 refine ⟨_,Go.heap_setCell_same w g i _ _ (.int .i64 y) h1,fun j x hx=>?_⟩
 rw [Array.getElem?_setIfInBounds]
 by_cases hj:i=j
 ·subst hj
  have hc:=h2 i ps[i] (by simp [hi])
  have hs:i < cur.size:=(Array.getElem?_eq_some_iff.1 hc).1
  rw [if_pos rfl,if_pos hs]
  simp [hi] at hx
  rw [hx]
 ·rw [if_neg hj]
  rw [List.getElem?_set_ne hj] at hx
  exact h2 j x hx

theorem rowI_owns {w:World} {lo:Nat} {g:Nat} {n cap:Nat} {ps:List Int} (hown:w.ownsRow lo 3 1 (.slice (some ⟨g,0,none⟩) n cap) n (ps.map (Value.int .i64))):RowI w g ps ∧ lo ≤ g:=by
 obtain ⟨cur0,hcur0⟩:=owns_type hown (k:=g) rfl
 rcases hown.2 with ⟨h0,_⟩ | ⟨g',cap',cur,hv,hb,hg,_,_,hs,ht⟩
 ·cases h0
 ·cases hv
  refine ⟨⟨cur,hg,fun i x hx=>?_⟩,hb⟩
  have h1:(ps.map (Value.int .i64))[i]?=some (.int .i64 x):=by rw [List.getElem?_map,hx];rfl
  rw [← ht,List.getElem?_take] at h1
  split at h1
  ·rw [Array.getElem?_toList] at h1
   exact h1
  ·cases h1

def RowV (lo:Nat) (w:World) (a:Option Addr) (ps:List Int):Prop:=ps ≠ [] → ∃ g,a=some ⟨g,0,none⟩ ∧ lo ≤ g ∧ RowI w g ps

theorem RowV.ints {lo:Nat} {w:World} {a:Option Addr} {ps:List Int} (h:RowV lo w a ps):IntsAt w a ps:=fun i x hx=>by
 obtain ⟨g,ha,_,hr⟩:=h (fun e=>by rw [e] at hx;simp at hx)
 rw [ha]
 exact hr.ints i x hx

theorem info_int:(Tryz.prog.info? 3).map (fun i=>(i.zero,i.size,i.bytes))=some (some (.int .i64 0),1,8):=by kernel_rfl

theorem owns_none (w:World) (t:TypeId):(w.alloc (.cells #[] t)).ownsRow w.heap.size t 1 (.slice (some ⟨w.heap.size,0,none⟩) 0 0) 0 []:=
 ⟨rfl,.inr ⟨w.heap.size,0,#[],rfl,Nat.le_refl _,heap_alloc_new w _,Nat.le_refl _,by unfold maxLen;omega,rfl,rfl⟩⟩

set_option maxRecDepth 100000 in
theorem clone_calls (a:Option Addr) (cap:Nat) (ps:List Int) (w:World) (h:IntsAt w a ps) (hl:ps.length ≤ 1048576) :
  Calls Tryz.prog 82 #[.slice a ps.length cap] w fun e w'=>∃ a' cap',e=.returned (.slice a' ps.length cap') ∧ RowV w.heap.size w' a' ps ∧ Keeps w w':=by
 cases a with
 | none=>
  have hp:ps=[]:=by
   cases ps with
   | nil=>rfl
   | cons x l=>obtain ⟨b,off,ha,_⟩:=h 0 x rfl;cases ha
  subst hp
  clear h hl
  rw [List.length_nil]
  have hnil:=fun (W:World)=>Lib.run_eql_slice_nil (P:=Tryz.prog) W 23 3 none 0 cap 0 0 Tryz.underlying23
  go_enter Tryz.func82,Tryz.ntmps82
  go_wp2
  go_ret
  exact ⟨none,0,rfl,fun hn=>absurd rfl hn,Keeps.refl _⟩
 | some ad=>
  obtain ⟨i0,hi,hz0,hz1,hz2⟩:=info_parts info_int
  have hcells:∀ j u,(ps.map (Value.int .i64))[j]?=some u → w.cell? (ad.add j)=some u:=fun j u hj=>by
   rw [List.getElem?_map,Option.map_eq_some_iff] at hj
   obtain ⟨x,hx,rfl⟩:=hj
   obtain ⟨b,off,ha,hc⟩:=h j x hx
   cases ha
   have hadd:(⟨b,off,none⟩:Addr).add j=⟨b,off + j,none⟩:=by
    unfold Addr.add
    split
    ·rename_i h0
     rw [h0]
     rfl
    ·rfl
   rw [hadd]
   exact hc
  obtain ⟨N,hN⟩:∃ N,N=ps.length:=⟨_,rfl⟩
  rw [← hN] at hl ⊢
  have HC:=Lib.hid hcells
  have HN:=Lib.hid hN
  have h63:0 + N ≤ maxLen:=by unfold maxLen;omega
  clear h hcells hN
  have hnil:=fun (W:World)=>Lib.run_eql_slice_nil (P:=Tryz.prog) W 23 3 (some ad) N cap 0 0 Tryz.underlying23
  go_enter Tryz.func82,Tryz.ntmps82
  go_wp2_with (first
   | (at_builtin;refine wpList_append_fresh rfl _ _ 23 rfl w.heap.size 3 i0 (.int .i64 0) 1 8 Tryz.underlying23 hi hz0 hz1 hz2 rfl (by decide) (.slice (some ⟨w.heap.size,0,none⟩) 0 0) 0 [] rfl (owns_none w 3) ad N cap (ps.map (Value.int .i64)) rfl (by rw [List.length_map,← HN.out,Nat.mul_one]) (fun j u hj=>((Keeps.refl w).alloc _).cell (HC.out j u hj)) (fun u hu=>by rw [List.mem_map] at hu;obtain ⟨x,_,rfl⟩:=hu;rfl) h63 (by omega) (by simp) ?_;intro v' w3 hown3 hg3 hnew)
   | fail)
  obtain ⟨a',cap',rfl,ha'⟩:=owns_slice hown3
  go_wp2_with fail
  go_ret
  refine ⟨a',cap',by simp,fun hn=>?_,?_⟩
  ·obtain ⟨g,rfl⟩:=ha' (by rw [Nat.zero_add,HN.out];intro e;exact hn (List.length_eq_zero_iff.1 e))
   rw [List.nil_append] at hown3
   obtain ⟨r1,r2⟩:=rowI_owns hown3
   exact ⟨g,rfl,r2,r1⟩
  ·have hu:Upd (fun k=>k=w.heap.size) (w.alloc (.cells #[] 3)) w3:=⟨hg3.os,hg3.tape,hg3.output,hg3.size,fun k hk hn=>hg3.block k hk (fun e=>by simp [Value.ownBlock] at e;exact hn e)⟩
   exact ((((Keeps.refl w).alloc (.cells #[] 3)).upd _).trans' hu).keeps (fun k hk e=>by omega)

def bRest (_:St) (l:Int) (lo hi:Edge):(Edge × Int) ⊕ Rec:=if lo=hi then .inl (lo,0) else .inr ⟨1,l,l,lo,hi⟩

def zRest (_:St) (l:Int) (lo hi:Edge):(Edge × Int) ⊕ Rec:=if hi.to=0 then .inl (lo,0) else .inr ⟨2,l,l,lo,hi⟩

def cRest (M:St) (l:Int) (lo hi:Edge):(Edge × Int) ⊕ Rec:=
 if lo=hi then .inl (lo,0) else match look M.cs lo.to with
  | none=>.inr ⟨3,l,l,lo,hi⟩
  | some r=>if r.top=l + 1 then (if r.hi=hi then .inr ⟨3,l,r.bot,r.lo,hi⟩ else .inr ⟨3,l,l,lo,hi⟩) else .inr ⟨3,l,l,lo,hi⟩

def qRest (M:St) (l:Int) (lo hi:Edge):(Edge × Int) ⊕ Rec:=
 if hi.to=0 then .inl (lo,0) else match look M.cs lo.to with
  | none=>.inr ⟨4,l,l,lo,hi⟩
  | some r=>if lo=hi then (if r.top=l + 1 then .inr ⟨4,l,r.bot,r.lo,r.hi⟩ else .inr ⟨4,l,l,lo,hi⟩) else .inr ⟨4,l,l,lo,hi⟩

def makeAct (M:St) (f l:Int) (lo hi:Edge) (rest:(Edge × Int) ⊕ Rec):(Edge × Int) ⊕ Rec:=
 if l < 0 ∨ M.n ≤ l then .inl (⟨0,0⟩,3)
 else if M.leads f lo (l + 1)=false ∨ M.leads f hi (l + 1)=false then .inl (⟨0,0⟩,1) else rest

def actE0 (M:St):(Edge × Int) ⊕ Rec → Edge | .inl x=>x.1 | .inr r=>foundE M 0 r

theorem rec_ok {f l b:Int} {lo hi:Edge} (hf:0 ≤ f ∧ f ≤ 255) (h0:0 ≤ l) (h1:l ≤ 16) (hb:0 ≤ b ∧ b ≤ 255) (hlo:lo.ok) (hhi:hi.ok):(⟨f,l,b,lo,hi⟩:Rec).ok:=
 ⟨hf,⟨h0,by show l ≤ 255;omega⟩,hb,hlo,hhi⟩

theorem bdd_found0 {F:Nat → Prop} {w:World} {sb:Nat} {M:St} (h:StoreRep F w sb M) (r:Rec) (hr:r.ok) :
  Calls Tryz.prog 277 #[.pointer (some ⟨sb,0,none⟩),.agg #[.int .u8 r.form,.int .u8 r.top,.int .u8 r.bot,.int .u8 r.lo.tag,.int .u32 r.lo.to,.int .u8 r.hi.tag,.int .u32 r.hi.to]] w fun e w'=>e=.returned (.tuple #[.agg #[.int .u8 (foundE M 0 r).tag,.int .u32 (foundE M 0 r).to],.int .u8 (M.findErr r)]) ∧ Upd F w w' ∧ StoreRep (Grow F w w') w' sb (M.findSt r):=by
 have hf:=fun (W:World) (hW:Keeps w W)=>store_find (h.keeps hW) r hr
 by_cases he:M.findErr r=0
 ·have e1:foundE M 0 r=⟨0,M.findId r⟩:=if_pos he
  rw [e1,he]
  rw [he] at hf
  refine (bfound_ok sb r (M.findId r) w h.pos h.lt (fun W W1=>StoreRep (Grow F W W1) W1 sb (M.findSt r)) hf).mono ?_
  rintro e w' ⟨rfl,W,W1,h1,h2,h3,h4⟩
  exact ⟨rfl,h3.after h.lt h1 h2 h4⟩
 ·have e1:foundE M 0 r=⟨0,0⟩:=if_neg he
  rw [e1]
  refine (bfound_bad sb r (M.findId r) (M.findErr r) he w h.pos h.lt (fun W W1=>StoreRep (Grow F W W1) W1 sb (M.findSt r)) hf).mono ?_
  rintro e w' ⟨rfl,W,W1,h1,h2,h3,h4⟩
  exact ⟨rfl,h3.after h.lt h1 h2 h4⟩

theorem zdd_found0 {F:Nat → Prop} {w:World} {sb:Nat} {M:St} (h:StoreRep F w sb M) (r:Rec) (hr:r.ok) :
  Calls Tryz.prog 278 #[.pointer (some ⟨sb,0,none⟩),.agg #[.int .u8 r.form,.int .u8 r.top,.int .u8 r.bot,.int .u8 r.lo.tag,.int .u32 r.lo.to,.int .u8 r.hi.tag,.int .u32 r.hi.to]] w fun e w'=>e=.returned (.tuple #[.agg #[.int .u8 (foundE M 0 r).tag,.int .u32 (foundE M 0 r).to],.int .u8 (M.findErr r)]) ∧ Upd F w w' ∧ StoreRep (Grow F w w') w' sb (M.findSt r):=by
 have hf:=fun (W:World) (hW:Keeps w W)=>store_find (h.keeps hW) r hr
 by_cases he:M.findErr r=0
 ·have e1:foundE M 0 r=⟨0,M.findId r⟩:=if_pos he
  rw [e1,he]
  rw [he] at hf
  refine (yfound_ok sb r (M.findId r) w h.pos h.lt (fun W W1=>StoreRep (Grow F W W1) W1 sb (M.findSt r)) hf).mono ?_
  rintro e w' ⟨rfl,W,W1,h1,h2,h3,h4⟩
  exact ⟨rfl,h3.after h.lt h1 h2 h4⟩
 ·have e1:foundE M 0 r=⟨0,0⟩:=if_neg he
  rw [e1]
  refine (yfound_bad sb r (M.findId r) (M.findErr r) he w h.pos h.lt (fun W W1=>StoreRep (Grow F W W1) W1 sb (M.findSt r)) hf).mono ?_
  rintro e w' ⟨rfl,W,W1,h1,h2,h3,h4⟩
  exact ⟨rfl,h3.after h.lt h1 h2 h4⟩

set_option maxRecDepth 100000 in
theorem tview_neg (sb:Nat) (l n:Int) (v:Edge) (w:World) (hn:n ≤ 16) (hsb:sb < w.heap.size)
  (hv:∀ W,Keeps w W → Calls Tryz.prog 97 #[.pointer (some ⟨sb,0,none⟩)] W fun e w'=>e=.returned (.int .i64 n) ∧ W=w')
  (h0:l < 0)
  : Calls Tryz.prog 297 #[.pointer (some ⟨sb,0,none⟩),.agg #[.int .u8 v.tag,.int .u32 v.to],.int .i64 l] w fun e w'=>e=.returned (.tuple #[.agg #[.int .u8 0,.int .u32 0],.agg #[.int .u8 0,.int .u32 0],.int .u8 3]) ∧ Keeps w w':=by
 have HV:=Lib.hid hv
 clear hv
 go_enter Tryz.func297,Tryz.ntmps297
 go_wp2_with (first | (go_at_call 97;refine (HV.out _ (by (exact kp))).mono ?_;rintro e w' ⟨rfl,rfl⟩) | fail)
 go_region
 all_goals go_wp2
 all_goals refine bodyPost_ret (v:=.tuple #[.agg #[.int .u8 0,.int .u32 0],.agg #[.int .u8 0,.int .u32 0],.int .u8 3]) (by simp [results,Tryz.results297,go_sem]) rfl ⟨rfl,by (exact kp)⟩

set_option maxRecDepth 100000 in
theorem tview_big (sb:Nat) (l n:Int) (v:Edge) (w:World) (hn:n ≤ 16) (hsb:sb < w.heap.size)
  (hv:∀ W,Keeps w W → Calls Tryz.prog 97 #[.pointer (some ⟨sb,0,none⟩)] W fun e w'=>e=.returned (.int .i64 n) ∧ W=w')
  (h0:0 ≤ l) (h1:n ≤ l)
  : Calls Tryz.prog 297 #[.pointer (some ⟨sb,0,none⟩),.agg #[.int .u8 v.tag,.int .u32 v.to],.int .i64 l] w fun e w'=>e=.returned (.tuple #[.agg #[.int .u8 0,.int .u32 0],.agg #[.int .u8 0,.int .u32 0],.int .u8 3]) ∧ Keeps w w':=by
 have HV:=Lib.hid hv
 clear hv
 go_enter Tryz.func297,Tryz.ntmps297
 go_wp2_with (first | (go_at_call 97;refine (HV.out _ (by (exact kp))).mono ?_;rintro e w' ⟨rfl,rfl⟩) | fail)
 go_region
 all_goals go_wp2
 all_goals refine bodyPost_ret (v:=.tuple #[.agg #[.int .u8 0,.int .u32 0],.agg #[.int .u8 0,.int .u32 0],.int .u8 3]) (by simp [results,Tryz.results297,go_sem]) rfl ⟨rfl,by (exact kp)⟩

set_option maxRecDepth 100000 in
theorem tview_no (sb:Nat) (l n:Int) (v:Edge) (w:World) (hn:n ≤ 16) (hsb:sb < w.heap.size)
  (hv:∀ W,Keeps w W → Calls Tryz.prog 97 #[.pointer (some ⟨sb,0,none⟩)] W fun e w'=>e=.returned (.int .i64 n) ∧ W=w')
  (h0:0 ≤ l) (h1:l < n)
  (hl:∀ W,Keeps w W → Calls Tryz.prog 163 #[.pointer (some ⟨sb,0,none⟩),.int .u8 5,.agg #[.int .u8 v.tag,.int .u32 v.to],.int .i64 l] W fun e w'=>e=.returned (.bool false) ∧ Keeps W w')
  : Calls Tryz.prog 297 #[.pointer (some ⟨sb,0,none⟩),.agg #[.int .u8 v.tag,.int .u32 v.to],.int .i64 l] w fun e w'=>e=.returned (.tuple #[.agg #[.int .u8 0,.int .u32 0],.agg #[.int .u8 0,.int .u32 0],.int .u8 1]) ∧ Keeps w w':=by
 have HV:=Lib.hid hv
 clear hv
 have HL:=Lib.hid hl
 clear hl
 go_enter Tryz.func297,Tryz.ntmps297
 go_wp2_with (first | (go_at_call 97;refine (HV.out _ (by (exact kp))).mono ?_;rintro e w' ⟨rfl,rfl⟩) | fail)
 (go_at_call 163;refine (HL.out _ (by (exact kp))).mono ?_;rintro e w1 ⟨rfl,hb⟩;have hsz:=hb.size;simp only [World.size_alloc] at hsz;have hz0:w.heap.size < w1.heap.size:=(by omega);have hz1:w.heap.size + 1 < w1.heap.size:=(by omega);have hz2:w.heap.size + 2 < w1.heap.size:=(by omega);have y0:=hb.cell (a:=⟨w.heap.size,0,none⟩) (v:=.int .u8 v.tag) (by simp [go_sem]);have y1:=hb.cell (a:=⟨w.heap.size,1,none⟩) (v:=.int .u32 v.to) (by simp [go_sem]);have x0:=hb.cell (a:=⟨w.heap.size + 1,0,none⟩) (v:=.int .u8 0) (by simp [go_sem]);have x1:=hb.cell (a:=⟨w.heap.size + 1,1,none⟩) (v:=.int .u32 0) (by simp [go_sem]);have z0:=hb.cell (a:=⟨w.heap.size + 2,0,none⟩) (v:=.int .u8 0) (by simp [go_sem]);have z1:=hb.cell (a:=⟨w.heap.size + 2,1,none⟩) (v:=.int .u32 0) (by simp [go_sem]);have xf:=fun o:Nat=>hb.frz (a:=⟨w.heap.size + 1,o,none⟩) (by simp [go_sem]) (by simp [go_sem]);have zf:=fun o:Nat=>hb.frz (a:=⟨w.heap.size + 2,o,none⟩) (by simp [go_sem]) (by simp [go_sem]);have hk:Keeps w w1:=(by (exact kp)))
 go_wp2_with fail
 go_region
 all_goals go_wp2
 all_goals refine bodyPost_ret (v:=.tuple #[.agg #[.int .u8 0,.int .u32 0],.agg #[.int .u8 0,.int .u32 0],.int .u8 1]) (by simp [results,Tryz.results297,go_sem,hz1,hz2,x0,x1,z0,z1]) rfl ⟨rfl,by (exact kp)⟩

set_option maxRecDepth 100000 in
theorem tview_zero (sb:Nat) (l n:Int) (t:Int) (w:World) (hn:n ≤ 16) (hsb:sb < w.heap.size)
  (hv:∀ W,Keeps w W → Calls Tryz.prog 97 #[.pointer (some ⟨sb,0,none⟩)] W fun e w'=>e=.returned (.int .i64 n) ∧ W=w')
  (h0:0 ≤ l) (h1:l < n)
  (hl:∀ W,Keeps w W → Calls Tryz.prog 163 #[.pointer (some ⟨sb,0,none⟩),.int .u8 5,.agg #[.int .u8 t,.int .u32 0],.int .i64 l] W fun e w'=>e=.returned (.bool true) ∧ Keeps W w')
  : Calls Tryz.prog 297 #[.pointer (some ⟨sb,0,none⟩),.agg #[.int .u8 t,.int .u32 0],.int .i64 l] w fun e w'=>e=.returned (.tuple #[.agg #[.int .u8 t,.int .u32 0],.agg #[.int .u8 t,.int .u32 0],.int .u8 0]) ∧ Keeps w w':=by
 have HV:=Lib.hid hv
 clear hv
 have HL:=Lib.hid hl
 clear hl
 go_enter Tryz.func297,Tryz.ntmps297
 go_wp2_with (first | (go_at_call 97;refine (HV.out _ (by (exact kp))).mono ?_;rintro e w' ⟨rfl,rfl⟩) | fail)
 (go_at_call 163;refine (HL.out _ (by (exact kp))).mono ?_;rintro e w1 ⟨rfl,hb⟩;have hsz:=hb.size;simp only [World.size_alloc] at hsz;have hz0:w.heap.size < w1.heap.size:=(by omega);have hz1:w.heap.size + 1 < w1.heap.size:=(by omega);have hz2:w.heap.size + 2 < w1.heap.size:=(by omega);have y0:=hb.cell (a:=⟨w.heap.size,0,none⟩) (v:=.int .u8 t) (by simp [go_sem]);have y1:=hb.cell (a:=⟨w.heap.size,1,none⟩) (v:=.int .u32 0) (by simp [go_sem]);have x0:=hb.cell (a:=⟨w.heap.size + 1,0,none⟩) (v:=.int .u8 0) (by simp [go_sem]);have x1:=hb.cell (a:=⟨w.heap.size + 1,1,none⟩) (v:=.int .u32 0) (by simp [go_sem]);have z0:=hb.cell (a:=⟨w.heap.size + 2,0,none⟩) (v:=.int .u8 0) (by simp [go_sem]);have z1:=hb.cell (a:=⟨w.heap.size + 2,1,none⟩) (v:=.int .u32 0) (by simp [go_sem]);have xf:=fun o:Nat=>hb.frz (a:=⟨w.heap.size + 1,o,none⟩) (by simp [go_sem]) (by simp [go_sem]);have zf:=fun o:Nat=>hb.frz (a:=⟨w.heap.size + 2,o,none⟩) (by simp [go_sem]) (by simp [go_sem]);have hk:Keeps w w1:=(by (exact kp)))
 go_wp2_with fail
 go_region
 all_goals go_wp2
 all_goals refine bodyPost_ret (v:=.tuple #[.agg #[.int .u8 t,.int .u32 0],.agg #[.int .u8 t,.int .u32 0],.int .u8 0]) (by simp [results,Tryz.results297,go_sem,hz1,hz2,x0,x1,z0,z1]) rfl ⟨rfl,by (exact kp)⟩

set_option maxRecDepth 100000 in
theorem tview_tag (sb:Nat) (l n:Int) (v:Edge) (w:World) (hn:n ≤ 16) (hsb:sb < w.heap.size)
  (hv:∀ W,Keeps w W → Calls Tryz.prog 97 #[.pointer (some ⟨sb,0,none⟩)] W fun e w'=>e=.returned (.int .i64 n) ∧ W=w')
  (h0:0 ≤ l) (h1:l < n)
  (hl:∀ W,Keeps w W → Calls Tryz.prog 163 #[.pointer (some ⟨sb,0,none⟩),.int .u8 5,.agg #[.int .u8 v.tag,.int .u32 v.to],.int .i64 l] W fun e w'=>e=.returned (.bool true) ∧ Keeps W w')
  (ht1:0 ≤ v.tag) (ht2:v.tag ≤ 255) (hc:¬ v.to=0) (ht:l < v.tag)
  : Calls Tryz.prog 297 #[.pointer (some ⟨sb,0,none⟩),.agg #[.int .u8 v.tag,.int .u32 v.to],.int .i64 l] w fun e w'=>e=.returned (.tuple #[.agg #[.int .u8 v.tag,.int .u32 v.to],.agg #[.int .u8 v.tag,.int .u32 v.to],.int .u8 0]) ∧ Keeps w w':=by
 have HV:=Lib.hid hv
 clear hv
 have HL:=Lib.hid hl
 clear hl
 go_enter Tryz.func297,Tryz.ntmps297
 go_wp2_with (first | (go_at_call 97;refine (HV.out _ (by (exact kp))).mono ?_;rintro e w' ⟨rfl,rfl⟩) | fail)
 (go_at_call 163;refine (HL.out _ (by (exact kp))).mono ?_;rintro e w1 ⟨rfl,hb⟩;have hsz:=hb.size;simp only [World.size_alloc] at hsz;have hz0:w.heap.size < w1.heap.size:=(by omega);have hz1:w.heap.size + 1 < w1.heap.size:=(by omega);have hz2:w.heap.size + 2 < w1.heap.size:=(by omega);have y0:=hb.cell (a:=⟨w.heap.size,0,none⟩) (v:=.int .u8 v.tag) (by simp [go_sem]);have y1:=hb.cell (a:=⟨w.heap.size,1,none⟩) (v:=.int .u32 v.to) (by simp [go_sem]);have x0:=hb.cell (a:=⟨w.heap.size + 1,0,none⟩) (v:=.int .u8 0) (by simp [go_sem]);have x1:=hb.cell (a:=⟨w.heap.size + 1,1,none⟩) (v:=.int .u32 0) (by simp [go_sem]);have z0:=hb.cell (a:=⟨w.heap.size + 2,0,none⟩) (v:=.int .u8 0) (by simp [go_sem]);have z1:=hb.cell (a:=⟨w.heap.size + 2,1,none⟩) (v:=.int .u32 0) (by simp [go_sem]);have xf:=fun o:Nat=>hb.frz (a:=⟨w.heap.size + 1,o,none⟩) (by simp [go_sem]) (by simp [go_sem]);have zf:=fun o:Nat=>hb.frz (a:=⟨w.heap.size + 2,o,none⟩) (by simp [go_sem]) (by simp [go_sem]);have hk:Keeps w w1:=(by (exact kp)))
 go_wp2_with fail
 go_region
 all_goals go_wp2
 all_goals refine bodyPost_ret (v:=.tuple #[.agg #[.int .u8 v.tag,.int .u32 v.to],.agg #[.int .u8 v.tag,.int .u32 v.to],.int .u8 0]) (by simp [results,Tryz.results297,go_sem,hz1,hz2,x0,x1,z0,z1]) rfl ⟨rfl,by (exact kp)⟩

set_option maxRecDepth 100000 in
theorem tview_none (sb:Nat) (l n:Int) (v:Edge) (x:Rec) (w:World) (hn:n ≤ 16) (hsb:sb < w.heap.size)
  (hv:∀ W,Keeps w W → Calls Tryz.prog 97 #[.pointer (some ⟨sb,0,none⟩)] W fun e w'=>e=.returned (.int .i64 n) ∧ W=w')
  (h0:0 ≤ l) (h1:l < n)
  (hl:∀ W,Keeps w W → Calls Tryz.prog 163 #[.pointer (some ⟨sb,0,none⟩),.int .u8 5,.agg #[.int .u8 v.tag,.int .u32 v.to],.int .i64 l] W fun e w'=>e=.returned (.bool true) ∧ Keeps W w')
  (ht1:0 ≤ v.tag) (ht2:v.tag ≤ 255) (hc:¬ v.to=0) (ht:v.tag ≤ l)
  (hg:∀ W,Keeps w W → Calls Tryz.prog 99 #[.pointer (some ⟨sb,0,none⟩),.int .u32 v.to] W fun e w'=>e=.returned (.tuple #[.agg #[.int .u8 x.form,.int .u8 x.top,.int .u8 x.bot,.int .u8 x.lo.tag,.int .u32 x.lo.to,.int .u8 x.hi.tag,.int .u32 x.hi.to],.bool false]) ∧ Keeps W w')
  : Calls Tryz.prog 297 #[.pointer (some ⟨sb,0,none⟩),.agg #[.int .u8 v.tag,.int .u32 v.to],.int .i64 l] w fun e w'=>e=.returned (.tuple #[.agg #[.int .u8 (l + 1),.int .u32 v.to],.agg #[.int .u8 0,.int .u32 0],.int .u8 0]) ∧ Keeps w w':=by
 have HV:=Lib.hid hv
 clear hv
 have HL:=Lib.hid hl
 clear hl
 have HG:=Lib.hid hg
 clear hg
 go_enter Tryz.func297,Tryz.ntmps297
 go_wp2_with (first | (go_at_call 97;refine (HV.out _ (by (exact kp))).mono ?_;rintro e w' ⟨rfl,rfl⟩) | fail)
 (go_at_call 163;refine (HL.out _ (by (exact kp))).mono ?_;rintro e w1 ⟨rfl,hb⟩;have hsz:=hb.size;simp only [World.size_alloc] at hsz;have hz0:w.heap.size < w1.heap.size:=(by omega);have hz1:w.heap.size + 1 < w1.heap.size:=(by omega);have hz2:w.heap.size + 2 < w1.heap.size:=(by omega);have y0:=hb.cell (a:=⟨w.heap.size,0,none⟩) (v:=.int .u8 v.tag) (by simp [go_sem]);have y1:=hb.cell (a:=⟨w.heap.size,1,none⟩) (v:=.int .u32 v.to) (by simp [go_sem]);have x0:=hb.cell (a:=⟨w.heap.size + 1,0,none⟩) (v:=.int .u8 0) (by simp [go_sem]);have x1:=hb.cell (a:=⟨w.heap.size + 1,1,none⟩) (v:=.int .u32 0) (by simp [go_sem]);have z0:=hb.cell (a:=⟨w.heap.size + 2,0,none⟩) (v:=.int .u8 0) (by simp [go_sem]);have z1:=hb.cell (a:=⟨w.heap.size + 2,1,none⟩) (v:=.int .u32 0) (by simp [go_sem]);have xf:=fun o:Nat=>hb.frz (a:=⟨w.heap.size + 1,o,none⟩) (by simp [go_sem]) (by simp [go_sem]);have zf:=fun o:Nat=>hb.frz (a:=⟨w.heap.size + 2,o,none⟩) (by simp [go_sem]) (by simp [go_sem]);have hk:Keeps w w1:=(by (exact kp)))
 go_wp2_with fail
 ·exfalso;simp_all;omega
 (go_at_call 99;refine (HG.out _ (by (exact kp))).mono ?_;rintro e w2 ⟨rfl,hb2⟩;have hs2:=hb2.size;have xf:=fun o:Nat=>hb2.frz (a:=⟨w.heap.size + 1,o,none⟩) (by dsimp only;omega) (xf o);have zf:=fun o:Nat=>hb2.frz (a:=⟨w.heap.size + 2,o,none⟩) (by dsimp only;omega) (zf o);have y0:=hb2.cell y0;have y1:=hb2.cell y1;have x0:=hb2.cell x0;have x1:=hb2.cell x1;have z0:=hb2.cell z0;have z1:=hb2.cell z1;have hz0:w.heap.size < w2.heap.size:=(by omega);have hz1:w.heap.size + 1 < w2.heap.size:=(by omega);have hz2:w.heap.size + 2 < w2.heap.size:=(by omega);have hk2:Keeps w w2:=hk.trans hb2)
 go_wp2_with fail
 all_goals refine bodyPost_ret (v:=.tuple #[.agg #[.int .u8 (l + 1),.int .u32 v.to],.agg #[.int .u8 0,.int .u32 0],.int .u8 0]) (by simp [results,Tryz.results297,go_sem,hz1,hz2,x0,x1,z0,z1]) rfl ⟨rfl,by (exact kp)⟩

set_option maxRecDepth 100000 in
theorem tview_up (sb:Nat) (l n:Int) (v:Edge) (x:Rec) (w:World) (hn:n ≤ 16) (hsb:sb < w.heap.size)
  (hv:∀ W,Keeps w W → Calls Tryz.prog 97 #[.pointer (some ⟨sb,0,none⟩)] W fun e w'=>e=.returned (.int .i64 n) ∧ W=w')
  (h0:0 ≤ l) (h1:l < n)
  (hl:∀ W,Keeps w W → Calls Tryz.prog 163 #[.pointer (some ⟨sb,0,none⟩),.int .u8 5,.agg #[.int .u8 v.tag,.int .u32 v.to],.int .i64 l] W fun e w'=>e=.returned (.bool true) ∧ Keeps W w')
  (ht1:0 ≤ v.tag) (ht2:v.tag ≤ 255) (hc:¬ v.to=0) (ht:v.tag ≤ l)
  (hx:l < x.top) (hx1:0 ≤ x.top) (hx2:x.top ≤ 255) (hx3:0 ≤ x.bot) (hx4:x.bot ≤ 255)
  (hg:∀ W,Keeps w W → Calls Tryz.prog 99 #[.pointer (some ⟨sb,0,none⟩),.int .u32 v.to] W fun e w'=>e=.returned (.tuple #[.agg #[.int .u8 x.form,.int .u8 x.top,.int .u8 x.bot,.int .u8 x.lo.tag,.int .u32 x.lo.to,.int .u8 x.hi.tag,.int .u32 x.hi.to],.bool true]) ∧ Keeps W w')
  : Calls Tryz.prog 297 #[.pointer (some ⟨sb,0,none⟩),.agg #[.int .u8 v.tag,.int .u32 v.to],.int .i64 l] w fun e w'=>e=.returned (.tuple #[.agg #[.int .u8 (l + 1),.int .u32 v.to],.agg #[.int .u8 0,.int .u32 0],.int .u8 0]) ∧ Keeps w w':=by
 have HV:=Lib.hid hv
 clear hv
 have HL:=Lib.hid hl
 clear hl
 have HG:=Lib.hid hg
 clear hg
 go_enter Tryz.func297,Tryz.ntmps297
 go_wp2_with (first | (go_at_call 97;refine (HV.out _ (by (exact kp))).mono ?_;rintro e w' ⟨rfl,rfl⟩) | fail)
 (go_at_call 163;refine (HL.out _ (by (exact kp))).mono ?_;rintro e w1 ⟨rfl,hb⟩;have hsz:=hb.size;simp only [World.size_alloc] at hsz;have hz0:w.heap.size < w1.heap.size:=(by omega);have hz1:w.heap.size + 1 < w1.heap.size:=(by omega);have hz2:w.heap.size + 2 < w1.heap.size:=(by omega);have y0:=hb.cell (a:=⟨w.heap.size,0,none⟩) (v:=.int .u8 v.tag) (by simp [go_sem]);have y1:=hb.cell (a:=⟨w.heap.size,1,none⟩) (v:=.int .u32 v.to) (by simp [go_sem]);have x0:=hb.cell (a:=⟨w.heap.size + 1,0,none⟩) (v:=.int .u8 0) (by simp [go_sem]);have x1:=hb.cell (a:=⟨w.heap.size + 1,1,none⟩) (v:=.int .u32 0) (by simp [go_sem]);have z0:=hb.cell (a:=⟨w.heap.size + 2,0,none⟩) (v:=.int .u8 0) (by simp [go_sem]);have z1:=hb.cell (a:=⟨w.heap.size + 2,1,none⟩) (v:=.int .u32 0) (by simp [go_sem]);have xf:=fun o:Nat=>hb.frz (a:=⟨w.heap.size + 1,o,none⟩) (by simp [go_sem]) (by simp [go_sem]);have zf:=fun o:Nat=>hb.frz (a:=⟨w.heap.size + 2,o,none⟩) (by simp [go_sem]) (by simp [go_sem]);have hk:Keeps w w1:=(by (exact kp)))
 go_wp2_with fail
 ·exfalso;simp_all;omega
 (go_at_call 99;refine (HG.out _ (by (exact kp))).mono ?_;rintro e w2 ⟨rfl,hb2⟩;have hs2:=hb2.size;have xf:=fun o:Nat=>hb2.frz (a:=⟨w.heap.size + 1,o,none⟩) (by dsimp only;omega) (xf o);have zf:=fun o:Nat=>hb2.frz (a:=⟨w.heap.size + 2,o,none⟩) (by dsimp only;omega) (zf o);have y0:=hb2.cell y0;have y1:=hb2.cell y1;have x0:=hb2.cell x0;have x1:=hb2.cell x1;have z0:=hb2.cell z0;have z1:=hb2.cell z1;have hz0:w.heap.size < w2.heap.size:=(by omega);have hz1:w.heap.size + 1 < w2.heap.size:=(by omega);have hz2:w.heap.size + 2 < w2.heap.size:=(by omega);have hk2:Keeps w w2:=hk.trans hb2)
 go_wp2_with fail
 all_goals refine bodyPost_ret (v:=.tuple #[.agg #[.int .u8 (l + 1),.int .u32 v.to],.agg #[.int .u8 0,.int .u32 0],.int .u8 0]) (by simp [results,Tryz.results297,go_sem,hz1,hz2,x0,x1,z0,z1]) rfl ⟨rfl,by (exact kp)⟩

set_option maxRecDepth 100000 in
theorem tview_at (sb:Nat) (l n:Int) (v:Edge) (x:Rec) (w:World) (hn:n ≤ 16) (hsb:sb < w.heap.size)
  (hv:∀ W,Keeps w W → Calls Tryz.prog 97 #[.pointer (some ⟨sb,0,none⟩)] W fun e w'=>e=.returned (.int .i64 n) ∧ W=w')
  (h0:0 ≤ l) (h1:l < n)
  (hl:∀ W,Keeps w W → Calls Tryz.prog 163 #[.pointer (some ⟨sb,0,none⟩),.int .u8 5,.agg #[.int .u8 v.tag,.int .u32 v.to],.int .i64 l] W fun e w'=>e=.returned (.bool true) ∧ Keeps W w')
  (ht1:0 ≤ v.tag) (ht2:v.tag ≤ 255) (hc:¬ v.to=0) (ht:v.tag ≤ l)
   (hx1:0 ≤ x.top) (hx2:x.top ≤ 255) (hx3:0 ≤ x.bot) (hx4:x.bot ≤ 255)
  (hg:∀ W,Keeps w W → Calls Tryz.prog 99 #[.pointer (some ⟨sb,0,none⟩),.int .u32 v.to] W fun e w'=>e=.returned (.tuple #[.agg #[.int .u8 x.form,.int .u8 l,.int .u8 x.bot,.int .u8 x.lo.tag,.int .u32 x.lo.to,.int .u8 x.hi.tag,.int .u32 x.hi.to],.bool true]) ∧ Keeps W w')
  : Calls Tryz.prog 297 #[.pointer (some ⟨sb,0,none⟩),.agg #[.int .u8 v.tag,.int .u32 v.to],.int .i64 l] w fun e w'=>e=.returned (.tuple #[.agg #[.int .u8 x.lo.tag,.int .u32 x.lo.to],.agg #[.int .u8 x.hi.tag,.int .u32 x.hi.to],.int .u8 0]) ∧ Keeps w w':=by
 have HV:=Lib.hid hv
 clear hv
 have HL:=Lib.hid hl
 clear hl
 have HG:=Lib.hid hg
 clear hg
 go_enter Tryz.func297,Tryz.ntmps297
 go_wp2_with (first | (go_at_call 97;refine (HV.out _ (by (exact kp))).mono ?_;rintro e w' ⟨rfl,rfl⟩) | fail)
 (go_at_call 163;refine (HL.out _ (by (exact kp))).mono ?_;rintro e w1 ⟨rfl,hb⟩;have hsz:=hb.size;simp only [World.size_alloc] at hsz;have hz0:w.heap.size < w1.heap.size:=(by omega);have hz1:w.heap.size + 1 < w1.heap.size:=(by omega);have hz2:w.heap.size + 2 < w1.heap.size:=(by omega);have y0:=hb.cell (a:=⟨w.heap.size,0,none⟩) (v:=.int .u8 v.tag) (by simp [go_sem]);have y1:=hb.cell (a:=⟨w.heap.size,1,none⟩) (v:=.int .u32 v.to) (by simp [go_sem]);have x0:=hb.cell (a:=⟨w.heap.size + 1,0,none⟩) (v:=.int .u8 0) (by simp [go_sem]);have x1:=hb.cell (a:=⟨w.heap.size + 1,1,none⟩) (v:=.int .u32 0) (by simp [go_sem]);have z0:=hb.cell (a:=⟨w.heap.size + 2,0,none⟩) (v:=.int .u8 0) (by simp [go_sem]);have z1:=hb.cell (a:=⟨w.heap.size + 2,1,none⟩) (v:=.int .u32 0) (by simp [go_sem]);have xf:=fun o:Nat=>hb.frz (a:=⟨w.heap.size + 1,o,none⟩) (by simp [go_sem]) (by simp [go_sem]);have zf:=fun o:Nat=>hb.frz (a:=⟨w.heap.size + 2,o,none⟩) (by simp [go_sem]) (by simp [go_sem]);have hk:Keeps w w1:=(by (exact kp)))
 go_wp2_with fail
 ·exfalso;simp_all;omega
 (go_at_call 99;refine (HG.out _ (by (exact kp))).mono ?_;rintro e w2 ⟨rfl,hb2⟩;have hs2:=hb2.size;have xf:=fun o:Nat=>hb2.frz (a:=⟨w.heap.size + 1,o,none⟩) (by dsimp only;omega) (xf o);have zf:=fun o:Nat=>hb2.frz (a:=⟨w.heap.size + 2,o,none⟩) (by dsimp only;omega) (zf o);have y0:=hb2.cell y0;have y1:=hb2.cell y1;have x0:=hb2.cell x0;have x1:=hb2.cell x1;have z0:=hb2.cell z0;have z1:=hb2.cell z1;have hz0:w.heap.size < w2.heap.size:=(by omega);have hz1:w.heap.size + 1 < w2.heap.size:=(by omega);have hz2:w.heap.size + 2 < w2.heap.size:=(by omega);have hk2:Keeps w w2:=hk.trans hb2)
 go_wp2_with fail
 go_region
 all_goals go_wp2
 all_goals refine bodyPost_ret (v:=.tuple #[.agg #[.int .u8 x.lo.tag,.int .u32 x.lo.to],.agg #[.int .u8 x.hi.tag,.int .u32 x.hi.to],.int .u8 0]) (by simp [results,Tryz.results297,go_sem,hz1,hz2,x0,x1,z0,z1]) rfl ⟨rfl,by (exact kp)⟩

end Go.Proofs.YtiifimnpmbfihaaGreat
