/-
  Plainly: what steps, one behind the other, make of roots and of the order.
-/
import Derived.Test.YtiifimnpmbfihaaGreatPKUnf
import Derived.Test.YtiifimnpmbfihaaGreatPSetW
namespace Go.Proofs.YtiifimnpmbfihaaGreat
set_option linter.unusedSimpArgs false
set_option linter.unusedVariables false
set_option maxHeartbeats 600000

def runL (ps:List Int) (ss:List Nat):List Int:=ss.foldl stepL ps

theorem runL_len (ss:List Nat):∀ ps:List Int,(runL ps ss).length=ps.length:=by
 induction ss with
 | nil=>intro ps;rfl
 | cons s ss ih=>intro ps;show (runL (stepL ps s) ss).length=_;rw [ih,stepL_len]

theorem runL_snoc (ps:List Int) (ss:List Nat) (s:Nat):runL ps (ss ++ [s])=stepL (runL ps ss) s:=by
 unfold runL
 rw [List.foldl_append]
 rfl

theorem runL_perm (ss:List Nat):∀ ps:List Int,(∀ s ∈ ss,s + 1 < ps.length) → permB ps=true → permB (runL ps ss)=true:=by
 induction ss with
 | nil=>intro ps _ h;exact h
 | cons s ss ih=>
  intro ps h1 h2
  show permB (runL (stepL ps s) ss)=true
  exact ih _ (fun t ht=>by rw [stepL_len];exact h1 t (by simp [ht])) (stepL_perm (h1 s (by simp)) h2)

structure RootOk (n:Nat) (ss:List Nat) (M0 M:St) (f:Int) (e x:Edge):Prop where
 lead:M.leads f x 0=true
 ok:x.ok
 tab:∀ ps:List Int,ps.length=n → tabP M (runL ps ss) f x=tabP M0 ps f e
 right:rightK M0 f e 0 → rightK M f x 0

theorem RootOk.start {n:Nat} {M:St} {f:Int} {e:Edge} (hl:M.leads f e 0=true) (he:e.ok):RootOk n [] M M f e e:=⟨hl,he,fun _ _=>rfl,fun h=>h⟩

theorem RootOk.ext {n:Nat} {ss:List Nat} {M0 M M':St} {f:Int} {e x:Edge} (h:RootOk n ss M0 M f e x) (hw:M.wf) (hE:Ext M M'):RootOk n ss M0 M' f e x:=
 ⟨hE.leads h.lead,h.ok,fun ps hp=>by rw [tabP_ext hw hE h.lead];exact h.tab ps hp,fun hr=>rightK_ext hE hw (h.right hr)⟩

theorem RootOk.step {n:Nat} {ss:List Nat} {M0 M M':St} {f:Int} {e x x':Edge} {lv:Nat} (h:RootOk n ss M0 M f e x) (hw:M.wf) (hE:Ext M M') (hg:GoodS (lv:Int) f M' x 0 x') (hlv:lv + 1 < n):RootOk n (ss ++ [lv]) M0 M' f e x':=
 ⟨hg.lead,hg.ok,fun ps hp=>by
  rw [runL_snoc,hg.tabP (by rw [runL_len,hp];exact hlv),tabP_ext hw hE h.lead]
  exact h.tab ps hp,fun hr=>hg.right (rightK_ext hE hw (h.right hr))⟩

def RootsOk (n:Nat) (ss:List Nat) (M0 M:St) (rs:List (Int × Edge)) (es:List Edge):Prop:=
 es.length=rs.length ∧ ∀ (i:Nat) (r:Int × Edge) (x:Edge),rs[i]?=some r → es[i]?=some x → RootOk n ss M0 M r.1 r.2 x

def RootsMid (n:Nat) (ss:List Nat) (lv d:Nat) (M0 M:St) (rs:List (Int × Edge)) (es:List Edge):Prop:=
 es.length=rs.length ∧ ∀ (i:Nat) (r:Int × Edge) (x:Edge),rs[i]?=some r → es[i]?=some x → RootOk n (if i < d then ss ++ [lv] else ss) M0 M r.1 r.2 x

theorem RootsOk.mid {n:Nat} {ss:List Nat} {M0 M:St} {rs:List (Int × Edge)} {es:List Edge} (h:RootsOk n ss M0 M rs es) (lv:Nat):RootsMid n ss lv 0 M0 M rs es:=
 ⟨h.1,fun i r x h1 h2=>by rw [if_neg (by omega)];exact h.2 i r x h1 h2⟩

theorem RootsMid.all {n:Nat} {ss:List Nat} {lv:Nat} {M0 M:St} {rs:List (Int × Edge)} {es:List Edge} (h:RootsMid n ss lv rs.length M0 M rs es):RootsOk n (ss ++ [lv]) M0 M rs es:=
 ⟨h.1,fun i r x h1 h2=>by
  have:=h.2 i r x h1 h2
  rw [if_pos (List.getElem?_eq_some_iff.1 h1).1] at this
  exact this⟩

theorem RootsMid.next {n:Nat} {ss:List Nat} {lv d:Nat} {M0 M M':St} {rs:List (Int × Edge)} {es:List Edge} {r:Int × Edge} {x x':Edge} (h:RootsMid n ss lv d M0 M rs es) (hr:rs[d]?=some r) (hx:es[d]?=some x) (hw:M.wf) (hE:Ext M M') (hg:GoodS (lv:Int) r.1 M' x 0 x') (hlv:lv + 1 < n) :
  RootsMid n ss lv (d + 1) M0 M' rs (es.set d x'):=by
 refine ⟨by rw [List.length_set];exact h.1,fun i q y h1 h2=>?_⟩
 by_cases hid:i=d
 ·subst hid
  rw [hr] at h1
  cases h1
  rw [List.getElem?_set_self (List.getElem?_eq_some_iff.1 hx).1] at h2
  cases h2
  have:=h.2 i r x hr hx
  rw [if_neg (by omega)] at this
  rw [if_pos (by omega)]
  exact this.step hw hE hg hlv
 ·rw [List.getElem?_set_ne (fun e=>hid e.symm)] at h2
  have:=(h.2 i q y h1 h2).ext hw hE
  by_cases hlt:i < d
  ·rw [if_pos hlt] at this
   rw [if_pos (by omega)]
   exact this
  ·rw [if_neg hlt] at this
   rw [if_neg (by omega)]
   exact this

structure StepsAt (ps qs:List Int) (i:Nat) (ss:List Nat):Prop where
 same:∀ j,j < i → (runL ps ss)[j]?=qs[j]?
 fit:∀ s ∈ ss,s + 1 < ps.length
 few:ss.length ≤ i * ps.length

structure StepsIn (ps qs:List Int) (i p:Nat) (x:Int) (ss:List Nat):Prop where
 same:∀ j,j < i → (runL ps ss)[j]?=qs[j]?
 fit:∀ s ∈ ss,s + 1 < ps.length
 few:ss.length + p ≤ i * ps.length + ps.length
 here:(runL ps ss)[p]?=some x
 low:i ≤ p

theorem StepsIn.lt {ps qs:List Int} {i p:Nat} {x:Int} {ss:List Nat} (h:StepsIn ps qs i p x ss):p < ps.length:=by
 have:=(List.getElem?_eq_some_iff.1 h.here).1
 rwa [runL_len] at this

theorem StepsAt.start (ps qs:List Int):StepsAt ps qs 0 []:=⟨fun j hj=>by omega,(fun s hs=>by cases hs),by simp⟩

theorem StepsIn.next {ps qs:List Int} {i p:Nat} {x:Int} {ss:List Nat} (h:StepsIn ps qs i (p + 1) x ss) (hp:i ≤ p):StepsIn ps qs i p x (ss ++ [p]):=by
 have hl:=h.lt
 have hl2:p + 1 < (runL ps ss).length:=by rw [runL_len];exact hl
 refine ⟨fun j hj=>?_,fun s hs=>?_,?_,?_,hp⟩
 ·rw [runL_snoc,stepL_get hl2,if_neg (by omega),if_neg (by omega)]
  exact h.same j hj
 ·rcases List.mem_append.1 hs with g | g
  ·exact h.fit s g
  ·simp at g;subst g;exact hl
 ·have:=h.few
  rw [List.length_append,List.length_singleton]
  omega
 ·rw [runL_snoc,stepL_get hl2,if_pos rfl]
  exact h.here

theorem StepsIn.out {ps qs:List Int} {i:Nat} {x:Int} {ss:List Nat} (h:StepsIn ps qs i i x ss) (hx:qs[i]?=some x):StepsAt ps qs (i + 1) ss:=by
 refine ⟨fun j hj=>?_,h.fit,?_⟩
 ·by_cases e:j=i
  ·subst e
   rw [h.here,hx]
  ·exact h.same j (by omega)
 ·have:=h.few
  rw [Nat.add_mul]
  omega

theorem StepsAt.low {ps qs:List Int} {i k:Nat} {x:Int} {ss:List Nat} (h:StepsAt ps qs i ss) (hq:permB qs=true) (hx:qs[i]?=some x) (hk:(runL ps ss)[k]?=some x):StepsIn ps qs i k x ss:=by
 have hl:=(List.getElem?_eq_some_iff.1 hk).1
 rw [runL_len] at hl
 refine ⟨h.same,h.fit,by have:=h.few;omega,hk,?_⟩
 apply Classical.byContradiction
 intro hlt
 have e:=h.same k (by omega)
 rw [hk] at e
 have:=nodup_get (permB_iff.1 hq).2.2 hx e.symm
 omega

theorem StepsAt.has {ps qs:List Int} {i:Nat} {x:Int} {ss:List Nat} (h:StepsAt ps qs i ss) (hp:permB ps=true) (hq:permB qs=true) (hl:ps.length=qs.length) (hx:qs[i]?=some x):x ∈ runL ps ss:=by
 have h1:=runL_perm ss ps h.fit hp
 have h2:=(permB_iff.1 hq).2.1 x (List.mem_of_getElem? hx)
 have h3:=(permB_perm.1 h1).2
 rw [runL_len] at h3
 exact h3.symm.subset (mem_numsI.2 ⟨h2.1,by omega⟩)

theorem StepsAt.done {ps qs:List Int} {ss:List Nat} (h:StepsAt ps qs ps.length ss) (hl:ps.length=qs.length):runL ps ss=qs:=by
 apply List.ext_getElem?
 intro j
 by_cases hj:j < ps.length
 ·exact h.same j hj
 ·rw [List.getElem?_eq_none (by rw [runL_len];omega),List.getElem?_eq_none (by omega)]

open Go.RowKit

def RowE (w:World) (g:Nat) (es:List Edge):Prop:=∃ cur:Array Value,w.heap[g]?=some (.cells cur 26 (0,0)) ∧ ∀ (i:Nat) (e:Edge),es[i]?=some e → cur[i * 2]?=some (Value.int .u8 e.tag) ∧ cur[i * 2 + 1]?=some (Value.int .u32 e.to)

theorem RowE.cell {w:World} {g:Nat} {es:List Edge} (h:RowE w g es) {i:Nat} {e:Edge} (hx:es[i]?=some e):w.cell? ⟨g,i * 2,none⟩=some (.int .u8 e.tag) ∧ w.cell? ⟨g,i * 2 + 1,none⟩=some (.int .u32 e.to):=by
 obtain ⟨cur,h1,h2⟩:=h
 obtain ⟨a,b⟩:=h2 i e hx
 exact ⟨by rw [cell_of_row w g _ _ _ _ h1];simp only [a],by rw [cell_of_row w g _ _ _ _ h1];simp only [b]⟩

theorem RowE.frozen {w:World} {g:Nat} {es:List Edge} (h:RowE w g es) (i:Nat):w.frozen? ⟨g,i,none⟩=false:=by
 obtain ⟨cur,h1,h2⟩:=h
 exact frozen_of_row w g i _ _ h1

theorem RowE.lt {w:World} {g:Nat} {es:List Edge} (h:RowE w g es):g < w.heap.size:=by
 obtain ⟨cur,h1,h2⟩:=h
 exact lt_of_heap h1

theorem RowE.keep {G:Nat → Prop} {w w':World} {g:Nat} {es:List Edge} (h:RowE w g es) (hu:Upd G w w') (hg:¬ G g):RowE w' g es:=by
 have hl:=h.lt
 obtain ⟨cur,h1,h2⟩:=h
 exact ⟨cur,(hu.block g hl hg).trans h1,h2⟩

theorem RowE.keeps {w w':World} {g:Nat} {es:List Edge} (h:RowE w g es) (hk:Keeps w w'):RowE w' g es:=h.keep (hk.upd (fun _=>False)) (fun h=>h)

theorem RowE.at {w:World} {g:Nat} {es:List Edge} (h:RowE w g es) (hok:∀ e ∈ es,e.ok):EdgesAt w (some ⟨g,0,none⟩) es:=fun i e he=>⟨hok e (List.mem_of_getElem? he),g,0,rfl,by rw [Nat.zero_add];exact (h.cell he).1,by rw [Nat.zero_add];exact (h.cell he).2⟩

theorem RowE.set {w:World} {g:Nat} {es:List Edge} (h:RowE w g es) (i:Nat) (e:Edge) (hi:i < es.length):RowE ((w.setCell ⟨g,i * 2,none⟩ (.int .u8 e.tag)).setCell ⟨g,i * 2 + 1,none⟩ (.int .u32 e.to)) g (es.set i e):=by
 obtain ⟨cur,h1,h2⟩:=h
 have h3:=Go.heap_setCell_same w g (i * 2) _ _ (.int .u8 e.tag) h1
 refine ⟨_,Go.heap_setCell_same _ g (i * 2 + 1) _ _ (.int .u32 e.to) h3,fun j x hx=>?_⟩
 obtain ⟨a,b⟩:=h2 i es[i] (by simp [hi])
 have l1:=(Array.getElem?_eq_some_iff.1 a).1
 have l2:=(Array.getElem?_eq_some_iff.1 b).1
 by_cases hj:i=j
 ·subst hj
  simp [hi] at hx
  subst hx
  constructor
  ·rw [Array.getElem?_setIfInBounds,if_neg (by omega),Array.getElem?_setIfInBounds,if_pos rfl,if_pos l1]
  ·rw [Array.getElem?_setIfInBounds,if_pos rfl,if_pos (by simpa using l2)]
 ·rw [List.getElem?_set_ne hj] at hx
  obtain ⟨c,d⟩:=h2 j x hx
  constructor
  ·rw [Array.getElem?_setIfInBounds,if_neg (by omega),Array.getElem?_setIfInBounds,if_neg (by omega)]
   exact c
  ·rw [Array.getElem?_setIfInBounds,if_neg (by omega),Array.getElem?_setIfInBounds,if_neg (by omega)]
   exact d

theorem info_edge:(Tryz.prog.info? 26).map (fun i=>(i.zero,i.size,i.bytes))=some (some (.agg #[.int .u8 0,.int .u32 0]),2,8):=by kernel_rfl

theorem rowE_made {w:World} {blk n:Nat} (h:w.ownsRow blk 26 2 (.slice (some ⟨blk,0,none⟩) n n) n (madeCells (Value.agg #[.int .u8 0,.int .u32 0]).cells (n * 2)).toList):RowE w blk (List.replicate n ⟨0,0⟩):=by
 obtain ⟨cur0,hcur0⟩:=owns_type h (k:=blk) rfl
 rcases h.2 with ⟨h0,_⟩ | ⟨g',cap',cur,hv,hb,hg,_,_,hs,ht⟩
 ·cases h0
 ·cases hv
  have key:∀ j,j < n * 2 → cur[j]?=some (if j % 2=0 then Value.int .u8 0 else Value.int .u32 0):=fun j hj=>by
   have h1:(madeCells (Value.agg #[.int .u8 0,.int .u32 0]).cells (n * 2)).toList[j]?=some (if j % 2=0 then Value.int .u8 0 else Value.int .u32 0):=by
    simp [madeCells,Value.cells,hj]
    rcases Nat.mod_two_eq_zero_or_one j with q | q
    ·rw [q];rfl
    ·rw [q];rfl
   rw [← ht,List.getElem?_take,if_pos hj,Array.getElem?_toList] at h1
   exact h1
  refine ⟨cur,hg,fun i e he=>?_⟩
  have hi:i < n:=by simpa using (List.getElem?_eq_some_iff.1 he).1
  have hee:e=⟨0,0⟩:=by
   rw [List.getElem?_replicate,if_pos hi] at he
   exact (Option.some.inj he).symm
  subst hee
  constructor
  ·rw [key _ (by omega),if_pos (by omega)]
  ·rw [key _ (by omega),if_neg (by omega)]

theorem bitI_vb (X:Nat) (v:Int):bitI (bitB (X:Int) v)=(vb X v:Int):=by
 unfold vb
 cases bitB (X:Int) v <;> rfl

set_option maxRecDepth 100000 in
theorem down_calls (a:Option Addr) (cap:Nat) (ps:List Int) (w:World) (h:IntsAt w a ps) (hl:ps.length ≤ 16) (hr:∀ x ∈ ps,0 ≤ x ∧ x ≤ 16) (X:Nat) (hX:X ≤ 65535) :
  Calls Tryz.prog 211 #[.slice a ps.length cap,.int .i64 (X:Int)] w fun e w'=>e=.returned (.int .i64 (dnN X ps:Int)) ∧ w=w':=by
 obtain ⟨N,hN⟩:∃ N,N=ps.length:=⟨_,rfl⟩
 rw [← hN] at hl ⊢
 have H:=Lib.hid h
 have HN:=Lib.hid hN
 have HR:=Lib.hid hr
 clear h hN hr
 go_enter Tryz.func211,Tryz.ntmps211
 go_wp2
 go_loopg [5,6] N (fun gk s5 s6 wr=>∃ d:Nat,s5=.int .i64 (dnN X (ps.take d):Int) ∧ s6=.int .i64 (d:Int) ∧ d + gk=N ∧ w=wr)
 case atStart=>exact ⟨0,by simp [dnN],rfl,by omega,rfl⟩
 case round=>
  obtain ⟨d,rfl,rfl,hd,rfl⟩:=hrel
  obtain ⟨y,hy⟩:∃ y,y=dnN X (ps.take d):=⟨_,rfl⟩
  have hy16:y < 65536:=by
   have h1:=dnN_lt X (ps.take d)
   have h2:2 ^ (ps.take d).length ≤ 2 ^ 16:=Nat.pow_le_pow_right (by decide) (by rw [List.length_take];omega)
   have e16:(2:Nat) ^ 16=65536:=rfl
   omega
  rw [← hy]
  have HY:=Lib.hid hy
  clear hy
  by_cases hlt:d < N
  ·obtain ⟨x,hx⟩:∃ b,ps[d]?=some b:=⟨_,List.getElem?_eq_getElem (by rw [← HN.out];exact hlt)⟩
   obtain ⟨b,off,rfl,c0⟩:=H.out d x hx
   have hxr:=HR.out x (List.mem_of_getElem? hx)
   have htk:=take_snoc hx
   have hv:=fun (W:World)=>value_calls (X:Int) x W (by omega) (by omega) hxr.1 hxr.2
   rw [bitI_vb] at hv
   have hvb:=vb_le X x
   obtain ⟨u,hu⟩:∃ u,u=vb X x:=⟨_,rfl⟩
   rw [← hu] at hv hvb
   have HV:=Lib.hid hv
   have hnext:Hid (dnN X (ps.take (d + 1))=2 * y + u):=Lib.hid (by rw [htk,dnN_snoc,← HY.out,← hu])
   clear hx htk hv hu hxr
   go_wp2_with (first | (go_at_call 110;refine (HV.out _).mono ?_;rintro e w1 ⟨rfl,rfl⟩) | fail)
   go_roundg (gk - 1)
   case rel=>exact ⟨d + 1,by rw [hnext.out];push_cast;rfl,by simp,by omega,rfl⟩
   case measure=>omega
  ·have hd2:d=N:=by omega
   have hres:Hid (dnN X ps=y):=Lib.hid (by rw [HY.out,List.take_of_length_le (by rw [← HN.out];omega)])
   clear hd2
   go_wp2_with fail
   go_ret
   exact ⟨by rw [hres.out];rfl,rfl⟩

def Fit0 (M:St):Prop:=∀ id r,look M.cs id=some r → 0 ≤ r.lo.to ∧ 0 ≤ r.hi.to

theorem find_fit0 {M:St} (hw:M.wf) (h:Fit0 M) {q:Rec} (hq:0 ≤ q.lo.to ∧ 0 ≤ q.hi.to):Fit0 (M.findSt q):=by
 unfold St.findSt
 cases M.idOf q with
 | some id=>exact h
 | none=>
  simp only []
  split
  ·exact h
  ·split
   ·exact h
   ·intro id r hr
    rcases (look_put hw.gone id r).1 hr with ⟨_,rfl⟩ | hr
    ·exact hq
    ·exact h id r hr

theorem view_fit0 {M:St} (hw:M.wf) (h:Fit0 M) {f:Int} {e:Edge} {l:Int} (hl:M.leads f e l=true) (h0:0 ≤ l) (h1:l < M.n) (he:0 ≤ e.to) (hv:vErr M (viewAct M f e l)=0) :
  0 ≤ (vLo M (viewAct M f e l)).to ∧ 0 ≤ (vHi M f (viewAct M f e l)).to ∧ Fit0 (vSt M (viewAct M f e l)):=by
 have hout:∀ a,a=(.inl (vOut f l e):(Edge × Edge × Int) ⊕ Rec) → 0 ≤ (vLo M a).to ∧ 0 ≤ (vHi M f a).to ∧ Fit0 (vSt M a):=fun a ha=>by
  subst ha
  refine ⟨?_,?_,h⟩
  ·show 0 ≤ (vOut f l e).1.to
   unfold vOut
   split
   ·exact he
   ·split <;> exact he
  ·show 0 ≤ (vOut f l e).2.1.to
   unfold vOut
   split
   ·exact he
   ·split <;> exact Int.le_refl _
 obtain ⟨va,hva⟩:∃ va,va=viewAct M f e l:=⟨_,rfl⟩
 rw [← hva] at hv ⊢
 have hva2:=hva
 unfold viewAct at hva2
 rw [if_neg (by omega),if_neg (by rw [hl];simp)] at hva2
 split at hva2
 ·rw [hva2]
  exact ⟨he,he,h⟩
 ·cases hk:look M.cs e.to with
  | none=>
   rw [hk] at hva2
   exact hout va hva2
  | some r=>
   rw [hk] at hva2
   simp only [] at hva2
   obtain ⟨r1,r2⟩:=h _ _ hk
   by_cases hlt:l < r.top
   ·rw [if_pos hlt] at hva2
    exact hout va hva2
   ·rw [if_neg hlt] at hva2
    split at hva2
    ·rw [hva2] at hv ⊢
     change M.findErr ⟨r.form,r.top + 1,r.bot,r.lo,r.hi⟩=0 at hv
     have hid:0 ≤ (foundE M 0 ⟨r.form,r.top + 1,r.bot,r.lo,r.hi⟩).to:=by
      rw [foundE_ok hv]
      show 0 ≤ M.findId _
      unfold St.findErr at hv
      unfold St.findId
      cases hi:M.idOf ⟨r.form,r.top + 1,r.bot,r.lo,r.hi⟩ with
      | some id=>have:=(look_some (idOf_look hi)).1;simp only [];omega
      | none=>
       rename_i hcc
       have g:=hw.goodRec hk
       have hrf:r.form=f:=(leads_some hl hk).1
       have hb:M.bad ⟨r.form,r.top + 1,r.bot,r.lo,r.hi⟩=false:=rest_good g hw.n16 (by have:=(leads_some hl hk).2.1;omega) (by rw [hrf];exact hcc.1) hcc.2
       have:=(find_zero hw hb (by unfold St.findErr;rw [hi] at hv ⊢;exact hv)).2.2.2.1
       unfold St.findId at this
       rw [hi] at this
       omega
     refine ⟨hid,?_,find_fit0 hw h ⟨r1,r2⟩⟩
     show 0 ≤ (if M.findErr _=0 then (if f=4 then foundE M 0 _ else r.hi) else ⟨0,0⟩:Edge).to
     rw [if_pos hv]
     split
     ·exact hid
     ·exact r2
    ·rw [hva2]
     exact ⟨r1,r2,h⟩

theorem right_table {f:Int} (hf:1 ≤ f ∧ f ≤ 5):∀ (k:Nat) (l:Int) (M:St) (e:Edge),M.wf → M.room=1048576 → M.len + ((2 ^ k:Nat):Int) ≤ 1048576 → 0 ≤ e.to → Fit0 M → M.leads f e l=true → rightK M f e l → 0 ≤ l → l + (k:Int)=M.n →
  ∃ M',Ext M M' ∧ M'.wf ∧ M'.room=1048576 ∧ M'.len + 1 ≤ M.len + ((2 ^ k:Nat):Int) ∧ Fit0 M' ∧ IsT f M' k (tabE M f e l) l e:=by
 intro k
 induction k with
 | zero=>
  intro l M e hw hr hlen he hfit hl hrt h0 hn
  have hn':l=M.n:=by simpa using hn
  have e0:(M.n - l).toNat=0:=by omega
  refine ⟨M,Ext.refl M,hw,hr,by show M.len + 1 ≤ M.len + ((1:Nat):Int);omega,hfit,?_⟩
  by_cases hz:e.to=0
  ·have:=(good_zero hw hf hf hl h0 hz).own hrt
   rw [e0] at this
   exact this
  ·have hok:e.ok:=by
    obtain ⟨hp,hr2⟩:=leads_iff.1 hl
    obtain ⟨p1,p2,p3,p4,p5,p6,p7,p8⟩:=plainB_iff.1 hp
    have ht:e.to < 2:=by
     rcases hr2 with q | ⟨r,a,b,c,d⟩
     ·exact q
     ·have g:=hw.goodRec a
      have:=g.tb
      have:=g.bn
      omega
    refine ⟨?_,⟨he,by omega⟩⟩
    by_cases h5:f=5
    ·have:=p8 h5 hz
     omega
    ·have:=p7 (.inl h5)
     omega
   have:=(good_end hw hf hf hok hl hn' hz).own hrt
   rw [e0] at this
   exact this
 | succ k ih=>
  intro l M e hw hr hlen he hfit hl hrt h0 hn
  push_cast at hn
  have e2:2 ^ (k + 1)=2 ^ k + 2 ^ k:=by rw [Nat.pow_succ];omega
  have hp:0 < 2 ^ k:=Nat.pow_pos (by decide)
  have h1:l < M.n:=by omega
  have hv0:vErr M (viewAct M f e l)=0:=by
   by_cases hv:vErr M (viewAct M f e l)=0
   ·exact hv
   ·have:=(viewed_full hw hl h1 hv).2.2
    omega
  have hv:=viewed hw hl h1 hv0
  obtain ⟨hp1,hp2,hp3⟩:=view_pair hw hl h0 h1 hv0 hrt rfl rfl rfl
  obtain ⟨olo,ohi,hstep⟩:=view_fit0 hw hfit hl h0 h1 he hv0
  obtain ⟨M1,hM1⟩:∃ N,N=vSt M (viewAct M f e l):=⟨_,rfl⟩
  obtain ⟨lo,hlo⟩:∃ N,N=vLo M (viewAct M f e l):=⟨_,rfl⟩
  obtain ⟨hi,hhi⟩:∃ N,N=vHi M f (viewAct M f e l):=⟨_,rfl⟩
  rw [← hM1,← hlo,← hhi] at hv hp1
  rw [← hM1,← hlo] at hp2
  rw [← hM1,← hhi] at hp3
  rw [← hlo] at olo
  rw [← hhi] at ohi
  rw [← hM1] at hstep
  have n1:=hv.ext.n
  obtain ⟨M2,x1,x2,x3,x4,x5,x7⟩:=ih (l + 1) M1 lo hv.wf (by rw [hv.room];exact hr) (by have:=hv.len;omega) olo hstep hv.llo hp2 (by omega) (by omega)
  have n2:=x1.n
  obtain ⟨M3,y1,y2,y3,y4,y5,y7⟩:=ih (l + 1) M2 hi x2 x3 (by have:=hv.len;omega) ohi x5 (x1.leads hv.lhi) (rightK_ext x1 hv.wf hp3) (by omega) (by omega)
  refine ⟨M3,(hv.ext.trans x1).trans y1,y2,y3,by have:=hv.len;omega,y5,?_⟩
  rw [tabE_ext hv.wf x1 (Weak.of hv.lhi)] at y7
  have hk1:(M1.n - (l + 1)).toNat=k:=by omega
  have tl:(tabE M1 f lo (l + 1)).length=2 ^ k:=by rw [tabE_len,hk1]
  have tl2:(tabE M1 f hi (l + 1)).length=2 ^ k:=by rw [tabE_len,hk1]
  rw [tab_split hv h0 h1]
  refine ⟨by rw [List.length_append,tl,tl2,e2],lo,hi,?_,?_,(hp1.ext x1 hf).ext y1 hf⟩
  ·rw [List.take_left' tl]
   exact IsT.ext y1 hf _ _ _ _ x7
  ·rw [List.drop_left' tl]
   exact y7

theorem right_isT {f:Int} (hf:1 ≤ f ∧ f ≤ 5) {M:St} {e:Edge} {k:Nat} {l:Int} (hw:M.wf) (hlen:M.len + ((2 ^ k:Nat):Int) ≤ 1048576) (he:0 ≤ e.to) (hfit:Fit0 M) (hl:M.leads f e l=true) (hr:rightK M f e l) (h0:0 ≤ l) (hn:l + (k:Int)=M.n) :
  ∃ M',Ext M M' ∧ M'.wf ∧ M'.room=1048576 ∧ M'.len + 1 ≤ M.len + ((2 ^ k:Nat):Int) ∧ Fit0 M' ∧ IsT f M' k (tabE M f e l) l e:=by
 have hE:=Ext.vast M
 obtain ⟨M',x1,x2,x3,x4,x5,x6⟩:=right_table hf k l M.vast e hw.vast rfl hlen he hfit (hE.leads hl) (rightK_ext hE hw hr) h0 hn
 rw [tabE_ext hw hE (Weak.of hl)] at x6
 exact ⟨M',hE.trans x1,x2,x3,x4,x5,x6⟩

theorem right_one {f:Int} (hf:1 ≤ f ∧ f ≤ 5) {M:St} {e e':Edge} {k:Nat} {l:Int} (hw:M.wf) (hlen:M.len + 2 * ((2 ^ k:Nat):Int) ≤ 1048576) (he:0 ≤ e.to) (he':0 ≤ e'.to) (hfit:Fit0 M) (hl:M.leads f e l=true) (hl':M.leads f e' l=true) (hr:rightK M f e l) (hr':rightK M f e' l) (h0:0 ≤ l) (hn:l + (k:Int)=M.n)
  (ht:tabE M f e l=tabE M f e' l):e=e':=by
 have hp:0 < 2 ^ k:=Nat.pow_pos (by decide)
 obtain ⟨M1,x1,x2,x3,x4,x5,x6⟩:=right_isT hf hw (by omega) he hfit hl hr h0 hn
 obtain ⟨M2,y1,y2,y3,y4,y5,y6⟩:=right_isT (k:=k) hf x2 (by omega) he' x5 (x1.leads hl') (rightK_ext x1 hw hr') h0 (by rw [x1.n];exact hn)
 rw [tabE_ext hw x1 (Weak.of hl'),← ht] at y6
 exact IsT.det y2 _ _ _ _ _ (IsT.ext y1 hf _ _ _ _ x6) y6

theorem StoreRep.fit0 {F:Nat → Prop} {w:World} {sb:Nat} {M:St} (h:StoreRep F w sb M):Fit0 M:=fun id r hr=>by
 have:=h.fit hr
 exact ⟨this.lo.2.1,this.hi.2.1⟩

theorem dnN_inj {ps:List Int} (hp:permB ps=true) {X Y:Nat} (hX:X < 2 ^ ps.length) (hY:Y < 2 ^ ps.length) (h:dnN X ps=dnN Y ps):X=Y:=by
 have key:∀ (vs:List Int),dnN X vs=dnN Y vs → ∀ v ∈ vs,bitB (X:Int) v=bitB (Y:Int) v:=by
  intro vs
  induction vs with
  | nil=>intro _ v hv;cases hv
  | cons u vs ih=>
   intro hh v hv
   have h1:=dnN_lt X vs
   have h2:=dnN_lt Y vs
   change vb X u * 2 ^ vs.length + dnN X vs=vb Y u * 2 ^ vs.length + dnN Y vs at hh
   have b1:=vb_le X u
   have b2:=vb_le Y u
   have c1:vb X u=0 ∨ vb X u=1:=by omega
   have c2:vb Y u=0 ∨ vb Y u=1:=by omega
   have e:vb X u=vb Y u:=by
    rcases c1 with c1 | c1 <;> rcases c2 with c2 | c2 <;> rw [c1,c2] at hh ⊢ <;> omega
   rw [e] at hh
   rcases List.mem_cons.1 hv with rfl | hv
   ·unfold vb at e
    cases hx:bitB (X:Int) v <;> cases hy:bitB (Y:Int) v <;> rw [hx,hy] at e <;> first | rfl | (exfalso;revert e;decide)
   ·exact ih (by omega) v hv
 apply Nat.eq_of_testBit_eq
 intro j
 by_cases hj:j < ps.length
 ·have hm:(j:Int) ∈ ps:=(permB_perm.1 hp).2.symm.subset (mem_numsI.2 ⟨by omega,by omega⟩)
  have:=key ps h _ hm
  rwa [bitB_testBit,bitB_testBit] at this
 ·rw [Nat.testBit_lt_two_pow (Nat.lt_of_lt_of_le hX (Nat.pow_le_pow_right (by decide) (by omega))),Nat.testBit_lt_two_pow (Nat.lt_of_lt_of_le hY (Nat.pow_le_pow_right (by decide) (by omega)))]

theorem dnN_onto {ps:List Int} (hp:permB ps=true) {y:Nat} (hy:y < 2 ^ ps.length):∃ X,X < 2 ^ ps.length ∧ dnN X ps=y:=by
 have hnd:((List.range (2 ^ ps.length)).map (fun X=>(dnN X ps:Int))).Nodup:=by
  rw [List.nodup_iff_pairwise_ne,List.pairwise_map]
  refine (List.nodup_iff_pairwise_ne.1 List.nodup_range).imp_of_mem ?_
  intro a b ha hb hne he
  rw [List.mem_range] at ha hb
  exact hne (dnN_inj hp ha hb (by omega))
 have hsub:∀ x ∈ (List.range (2 ^ ps.length)).map (fun X=>(dnN X ps:Int)),x ∈ numsI (2 ^ ps.length):=fun x hx=>by
  obtain ⟨X,_,rfl⟩:=List.mem_map.1 hx
  have:=dnN_lt X ps
  exact mem_numsI.2 ⟨by omega,by omega⟩
 have hperm:=perm_of_sub _ (numsI (2 ^ ps.length)) hnd hsub (by rw [numsI_len,List.length_map,List.length_range];exact Nat.le_refl _)
 have hm:(y:Int) ∈ (List.range (2 ^ ps.length)).map (fun X=>(dnN X ps:Int)):=hperm.subset (mem_numsI.2 ⟨by omega,by omega⟩)
 obtain ⟨X,hX,he⟩:=List.mem_map.1 hm
 exact ⟨X,List.mem_range.1 hX,by omega⟩

theorem ordAt_calls (a:Option Addr) (cap:Nat) (ps:List Int) (w:World) (h:IntsAt w a ps) (hl:ps.length ≤ 16) (i:Nat) (x:Int) (hx:ps[i]?=some x) :
  Calls Tryz.prog 212 #[.slice a ps.length cap,.int .i64 (i:Int)] w fun e w'=>e=.returned (.int .i64 x) ∧ w=w':=by
 obtain ⟨b,off,rfl,hc⟩:=h i x hx
 have hi:=(List.getElem?_eq_some_iff.1 hx).1
 obtain ⟨N,hN⟩:∃ N,N=ps.length:=⟨_,rfl⟩
 rw [← hN] at hl hi ⊢
 clear h hx hN
 go_enter Tryz.func212,Tryz.ntmps212
 go_wp2
 go_ret
 exact ⟨rfl,rfl⟩

theorem ordVar_calls {F:Nat → Prop} {w:World} {ob:Nat} {ps:List Int} (h:OrdRep F w ob ps) (i:Nat) (x:Int) (hx:ps[i]?=some x) :
  Calls Tryz.prog 130 #[.pointer (some ⟨ob,0,none⟩),.int .i64 (i:Int)] w fun e w'=>e=.returned (.int .i64 x) ∧ w=w':=by
 obtain ⟨va,vc,lg,lc,c0,c1,hi⟩:=h.cells
 have HC:=Lib.hid (ordAt_calls va vc ps w hi h.le i x hx)
 obtain ⟨n,hn⟩:∃ n,n=ps.length:=⟨_,rfl⟩
 rw [← hn] at c0 c1 HC
 clear h c1 hi hn hx
 go_enter Tryz.func130,Tryz.ntmps130
 go_wp2_with (first | (go_at_call 212;refine HC.out.mono ?_;rintro e w1 ⟨rfl,rfl⟩) | fail)
 go_ret
 exact ⟨rfl,rfl⟩

theorem ordLevel_calls {F:Nat → Prop} {w:World} {ob:Nat} {ps:List Int} (h:OrdRep F w ob ps) (i v:Nat) (hx:ps[i]?=some (v:Int)) :
  Calls Tryz.prog 158 #[.pointer (some ⟨ob,0,none⟩),.int .i64 (v:Int)] w fun e w'=>e=.returned (.int .i64 (i:Int)) ∧ w=w':=by
 have hle:=h.le
 obtain ⟨⟨va,vc,lg,lc,qs,h1,h2,h3,h4,h5⟩,_⟩:=h
 have c1:w.cell? ⟨ob,1,none⟩=some (.slice (some ⟨lg,0,none⟩) ps.length lc):=by rw [cell_of_row w ob 1 _ _ _ h1];rfl
 have hq:=h2.2 i v hx
 rw [Int.toNat_natCast] at hq
 have HC:=Lib.hid (ordAt_calls (some ⟨lg,0,none⟩) lc qs w h4.ints (by rw [h2.1];exact hle) v (i:Int) hq)
 rw [h2.1] at HC
 obtain ⟨n,hn⟩:∃ n,n=ps.length:=⟨_,rfl⟩
 rw [← hn] at c1 HC
 clear h1 h2 h3 h4 h5 hn hx hq hle
 go_enter Tryz.func158,Tryz.ntmps158
 go_wp2_with (first | (go_at_call 212;refine HC.out.mono ?_;rintro e w1 ⟨rfl,rfl⟩) | fail)
 go_ret
 exact ⟨rfl,rfl⟩

set_option maxRecDepth 100000 in
theorem stage_calls (room:Int) (a:Option Addr) (cap:Nat) (ps:List Int) (w:World) (h:IntsAt w a ps) (hp:permB ps=true) (h0:0 ≤ room) (h1:room ≤ 1048576) :
  Calls Tryz.prog 31 #[.int .i64 room,.slice a ps.length cap] w fun e w'=>∃ sb ob F Fo,e=.returned (.tuple #[.pointer (some ⟨sb,0,none⟩),.pointer (some ⟨ob,0,none⟩),.bool true]) ∧ Keeps w w' ∧ StoreRep F w' sb (St.new (ps.length:Int) room) ∧ OrdRep Fo w' ob ps ∧ (∀ k,F k → ¬ Fo k) ∧ (∀ k,F k → w.heap.size ≤ k) ∧ (∀ k,Fo k → w.heap.size ≤ k):=by
 have hl:=(permB_iff.1 hp).1
 have hO:=fun (W:World) (hW:Keeps w W)=>orderOf_calls a cap ps W (h.keeps hW) (by omega)
 have hS:=fun (W:World)=>store_new (ps.length:Int) room W (by omega) (by omega) h0 h1
 simp only [hp,if_true] at hO
 obtain ⟨N,hN⟩:∃ N,N=ps.length:=⟨_,rfl⟩
 rw [← hN] at hO hS hl ⊢
 have HO:=Lib.hid hO
 have HS:=Lib.hid hS
 clear hO hS h hp hN
 go_enter Tryz.func31,Tryz.ntmps31
 go_wp2_with (first | (go_at_call 78;refine (HS.out _).mono ?_;rintro e w1 ⟨sb,F,rfl,hk1,hF,hR⟩) | fail)
 refine (HO.out _ hk1).mono ?_
 rintro e w2 ⟨hk2,ob,Fo,rfl,hOR,hFo⟩
 have HR:=Lib.hid hR
 have HOR:=Lib.hid hOR
 clear hR hOR
 go_wp2_with fail
 refine bodyPost_ret (v:=.tuple #[.pointer (some ⟨sb,0,none⟩),.pointer (some ⟨ob,0,none⟩),.bool true]) (by simp [results,Tryz.results31,go_sem]) rfl ⟨sb,ob,F,Fo,rfl,hk1.trans hk2,HR.out.keeps hk2,HOR.out,fun k hk hh=>?_,hF,fun k hk=>?_⟩
 ·have:=HR.out.lt k hk
  have:=hFo k hh
  omega
 ·have:=hFo k hk
  have:=hk1.size
  omega

set_option maxRecDepth 100000 in
theorem buildMay_calls {F Fo:Nat → Prop} {w:World} {sb ob:Nat} {M:St} {ps:List Int} (h:StoreRep F w sb M) (ho:OrdRep Fo w ob ps) (hn:M.n=(ps.length:Int)) (f:Int) (hf:isFormB f=true) :
  Calls Tryz.prog 121 #[.pointer (some ⟨sb,0,none⟩),.pointer (some ⟨ob,0,none⟩),.int .u8 f] w fun e w'=>e=.returned (.int .u8 0) ∧ Keeps w w':=by
 have HV:=Lib.hid (fun (W:World) (hW:Keeps w W)=>store_vars (h.keeps hW))
 have HO:=Lib.hid (fun (W:World) (hW:Keeps w W)=>ordVars_calls (ho.keeps hW))
 have hif:=isForm_calls f
 rw [hf] at hif
 have HI:=Lib.hid hif
 rw [hn] at HV
 have hle:=ho.le
 obtain ⟨N,hN⟩:∃ N,N=ps.length:=⟨_,rfl⟩
 rw [← hN] at HV HO hle
 clear h ho hn hif hf hN
 go_enter Tryz.func121,Tryz.ntmps121
 go_wp2_with (first | (go_at_call 97;refine (HV.out _ (by (exact kp))).mono ?_;rintro e w1 ⟨rfl,rfl⟩) | (go_at_call 116;refine (HO.out _ (by (exact kp))).mono ?_;rintro e w1 ⟨rfl,rfl⟩) | (go_at_call 84;refine (HI.out _).mono ?_;rintro e w1 ⟨rfl,rfl⟩) | fail)
 go_ret
 exact ⟨rfl,by (exact kp)⟩

def VarOut (F:Nat → Prop) (w:World) (sb:Nat) (M':St) (x:Edge) (er:Int) (r:Ending) (w':World):Prop:=
 ∃ F',r=.returned (.tuple #[.agg #[.int .u8 x.tag,.int .u32 x.to],.int .u8 er]) ∧ Upd F w w' ∧ StoreRep F' w' sb M' ∧ (∀ j,F' j → F j ∨ w.heap.size ≤ j)

set_option maxRecDepth 100000 in
set_option maxHeartbeats 2000000 in
theorem buildVar_calls {F Fo:Nat → Prop} {w:World} {sb ob:Nat} {M:St} {ps:List Int} (h:StoreRep F w sb M) (ho:OrdRep Fo w ob ps) (hn:M.n=(ps.length:Int)) (f:Int) (hf:isFormB f=true) (i v:Nat) (hx:ps[i]?=some (v:Int)) (x:Edge) (er:Int) (M':St)
  (hC:∀ W,Keeps w W → Calls Tryz.prog 157 #[.pointer (some ⟨sb,0,none⟩),.int .u8 f,.int .i64 0,.int .u16 (2 ^ i),.int .u16 0] W fun r w'=>r=.returned (.tuple #[.agg #[.int .u8 x.tag,.int .u32 x.to],.int .u8 er]) ∧ Upd F W w' ∧ StoreRep (Grow F W w') w' sb M') :
  Calls Tryz.prog 77 #[.pointer (some ⟨sb,0,none⟩),.pointer (some ⟨ob,0,none⟩),.int .u8 f,.int .i64 (v:Int)] w (VarOut F w sb M' x er):=by
 have HM:=Lib.hid (fun (W:World) (hW:Keeps w W)=>buildMay_calls (h.keeps hW) (ho.keeps hW) hn f hf)
 have HV:=Lib.hid (fun (W:World) (hW:Keeps w W)=>store_vars (h.keeps hW))
 have HL:=Lib.hid (fun (W:World) (hW:Keeps w W)=>ordLevel_calls (ho.keeps hW) i v hx)
 have HC:=Lib.hid hC
 have HLT:=Lib.hid h.lt
 have hle:=ho.le
 have hil:=(List.getElem?_eq_some_iff.1 hx).1
 have hvr:=((permB_iff.1 ho.perm).2.1 _ (List.mem_of_getElem? hx)).2
 rw [hn] at HV
 obtain ⟨N,hN⟩:∃ N,N=ps.length:=⟨_,rfl⟩
 rw [← hN] at HV hle hil hvr
 have hvN:¬ (N:Int) ≤ (v:Int):=by omega
 have hi15:(i:Int) ≤ 15:=by omega
 have hp2:(2:Nat) ^ i ≤ 2 ^ 15:=Nat.pow_le_pow_right (by decide) (by omega)
 have hpc:((2 ^ i:Nat):Int)=2 ^ i:=by push_cast;rfl
 have e15:(2:Nat) ^ 15=32768:=rfl
 have hp3:(0:Int) < 2 ^ i:=Int.pow_pos (by decide)
 have hp4:(2:Int) ^ i ≤ 32768:=by omega
 have hwr:(2:Int) ^ i % 65536=2 ^ i:=Int.emod_eq_of_lt (by omega) (by omega)
 clear h ho hn hf hx hC hN hp2 hpc e15
 go_enter Tryz.func77,Tryz.ntmps77
 go_wp2_with (first | (go_at_call 121;refine (HM.out _ (by (exact kp))).mono ?_;rintro e w1 ⟨rfl,hk1⟩) | (go_at_call 97;refine (HV.out _ (by (exact kp))).mono ?_;rintro e w1 ⟨rfl,rfl⟩) | (go_at_call 158;refine (HL.out _ (by (exact kp))).mono ?_;rintro e w1 ⟨rfl,rfl⟩) | fail)
 have hkw:Keeps w w1:=by (exact kp)
 have sz1:=hk1.size
 simp only [World.size_alloc] at sz1
 have r0:=hk1.cell (a:=⟨w.heap.size,0,none⟩) (v:=.int .u8 0) (by simp [go_sem])
 have r1:=hk1.cell (a:=⟨w.heap.size,1,none⟩) (v:=.int .u32 0) (by simp [go_sem])
 have rf:=fun o:Nat=>hk1.frz (a:=⟨w.heap.size,o,none⟩) (by simp) (by simp [go_sem])
 refine (HC.out _ hkw).mono ?_
 rintro r w3 ⟨rfl,hu,hS⟩
 have nR:¬ F w.heap.size:=fun hh=>by have:=HLT.out _ hh;omega
 replace r0:=hu.cellAt nR r0
 replace r1:=hu.cellAt nR r1
 replace rf:=fun o:Nat=>hu.frozen (a:=⟨w.heap.size,o,none⟩) (by show w.heap.size < _;omega) nR (rf o)
 have hout:∀ w',Upd (fun j=>j=w.heap.size) w3 w' → VarOut F w sb M' x er (.returned (.tuple #[.agg #[.int .u8 x.tag,.int .u32 x.to],.int .u8 er])) w':=fun w' hw'=>by
  refine ⟨Grow F w1 w3,rfl,((hkw.upd F).trans' hu).later hw' (fun i hi hh=>by omega),hS.keep hw' (fun k hk hh=>?_),fun j hj=>?_⟩
  ·subst hh
   rcases hk with q | q
   ·exact nR q
   ·omega
  ·rcases hj with q | q
   ·exact .inl q
   ·exact .inr (by omega)
 have HOUT:=Lib.hid hout
 clear hout hS hu hkw hk1
 go_wp2_with fail
 refine bodyPost_ret (v:=.tuple #[.agg #[.int .u8 x.tag,.int .u32 x.to],.int .u8 er]) (by simp [results,Tryz.results77,go_sem,r0,r1]) rfl (HOUT.out _ ?_)
 (repeat (first | with_reducible exact Upd.refl _ _ | refine updR ?_ _ _ | with_reducible refine Upd.alloc ?_ _ | with_reducible refine Upd.drew ?_))

theorem unf_ext {f:Int} {M M':St} (hE:Ext M M') (hF:Fine f M) {n:Nat} {e:Edge} {l:Int} (h:At f M e l n):unfS f M' n e=unfS f M n e:=
 unfS_of (unf_agree hF (roots:=[e.to]) (fun id hid=>by
  cases hk:look M.cs id with
  | none=>exact absurd hk hid.some
  | some r=>exact hE.sub _ _ hk) n e l h (fun hl=>Reaches.root (by simp) hl))

theorem right_text {f:Int} (hf:1 ≤ f ∧ f ≤ 5) {M:St} (hF:Fine f M) {k:Nat} {x:Edge} (hl:M.leads f x 0=true) (hr:rightK M f x 0) (hto:0 ≤ x.to) (hfit:Fit0 M) (hn:M.n=(k:Int)) (hlen:M.len + ((2 ^ k:Nat):Int) ≤ 1048576):unfS f M (k + 1) x=termK f k (tabE M f x 0) 0:=by
 obtain ⟨M',x1,x2,x3,x4,x5,x6⟩:=right_isT (k:=k) hf hF.wf hlen hto hfit hl hr (Int.le_refl _) (by omega)
 have h1:=twoK x2 hf x6 (by rw [x1.n];omega) (Int.le_refl _) k (Nat.le_refl _)
 rw [← h1]
 exact (unf_ext x1 hF (l:=0) ⟨hl,hto,by push_cast;omega⟩).symm

def hasT (n:Nat) (has:Nat → Bool):List Bool:=(List.range (2 ^ n)).map has

theorem hasT_get {n:Nat} {has:Nat → Bool} {X:Nat} (h:X < 2 ^ n):(hasT n has)[X]?=some (has X):=by
 unfold hasT
 rw [List.getElem?_map,List.getElem?_range h]
 rfl

theorem tabP_hasT {M:St} {f:Int} {ps:List Int} {x:Edge} {has:Nat → Bool} (hp:permB ps=true) (hn:M.n=(ps.length:Int)) (h:tabE M f x 0=bldT has ps 0):tabP M ps f x=hasT ps.length has:=by
 apply List.ext_getElem?
 intro X
 by_cases hX:X < 2 ^ ps.length
 ·rw [tabP_get hX,← tabE_dnN hn,h,bldT_dnN,putV_all hp hX,hasT_get hX]
 ·rw [List.getElem?_eq_none (by rw [tabP_len];omega),List.getElem?_eq_none (by unfold hasT;simp;omega)]

theorem tabE_hasT {M:St} {f:Int} {ps:List Int} {x:Edge} {has:Nat → Bool} (hp:permB ps=true) (hn:M.n=(ps.length:Int)) (h:tabP M ps f x=hasT ps.length has):tabE M f x 0=bldT has ps 0:=by
 apply List.ext_getElem?
 intro y
 have hl:(tabE M f x 0).length=2 ^ ps.length:=by rw [tabE_len];congr 1;omega
 by_cases hy:y < 2 ^ ps.length
 ·obtain ⟨X,hX,rfl⟩:=dnN_onto hp hy
  have h1:=tabP_get (M:=M) (f:=f) (e:=x) hX
  rw [h,hasT_get hX] at h1
  rw [tabE_dnN hn,← h1,bldT_dnN,putV_all hp hX]
 ·rw [List.getElem?_eq_none (by omega),List.getElem?_eq_none (by rw [bldT_len];omega)]

end Go.Proofs.YtiifimnpmbfihaaGreat
