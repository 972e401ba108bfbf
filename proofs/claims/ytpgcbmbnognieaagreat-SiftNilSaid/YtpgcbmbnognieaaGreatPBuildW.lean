/-
  Plainly: what steps, one behind the other, make of roots and of the order.
-/
import Derived.Test.YtpgcbmbnognieaaGreatPSetW
namespace Go.Proofs.YtpgcbmbnognieaaGreat
set_option maxRecDepth 1000000
set_option maxHeartbeats 8000000
set_option linter.unusedSimpArgs false
set_option linter.unusedVariables false

def runL (ps:List Int)(ss:List Nat):List Int:=ss.foldl stepL ps

theorem runL_len (ss:List Nat):∀ ps:List Int,(runL ps ss).length=ps.length:=by
 induction ss with
 | nil=>intro ps;rfl
 | cons s ss ih=>intro ps;show(runL (stepL ps s) ss).length=_;rw [ih,stepL_len]

theorem runL_snoc (ps:List Int)(ss:List Nat)(s:Nat):runL ps (ss++[s])=stepL (runL ps ss) s:=by
 unfold runL
 rw [List.foldl_append]
 rfl

theorem runL_perm (ss:List Nat):∀ ps:List Int,(∀ s∈ss,s+1<ps.length)→permB ps=true→permB (runL ps ss)=true:=by
 induction ss with
 | nil=>intro ps _ h;exact h
 | cons s ss ih=>
  intro ps h1 h2
  show permB (runL (stepL ps s) ss)=true
  exact ih _ (fun t ht=>by rw [stepL_len];exact h1 t (by simp [ht])) (stepL_perm (h1 s (by simp)) h2)

structure RootOk (n:Nat)(ss:List Nat)(M0 M:St)(f:Int)(e x:Edge):Prop where
 lead:M.leads f x 0=true
 ok:x.ok
 tab:∀ ps:List Int,ps.length=n→tabP M (runL ps ss) f x=tabP M0 ps f e
 right:rightK M0 f e 0→rightK M f x 0

theorem RootOk.start {n:Nat}{M:St}{f:Int}{e:Edge}(hl:M.leads f e 0=true)(he:e.ok):RootOk n [] M M f e e:=⟨hl,he,fun _ _=>rfl,fun h=>h⟩

theorem RootOk.ext {n:Nat}{ss:List Nat}{M0 M M':St}{f:Int}{e x:Edge}(h:RootOk n ss M0 M f e x)(hw:M.wf)(hE:Ext M M'):RootOk n ss M0 M' f e x:=
 ⟨hE.leads h.lead,h.ok,fun ps hp=>by rw [tabP_ext hw hE h.lead];exact h.tab ps hp,fun hr=>rightK_ext hE hw (h.right hr)⟩

theorem RootOk.step {n:Nat}{ss:List Nat}{M0 M M':St}{f:Int}{e x x':Edge}{lv:Nat}(h:RootOk n ss M0 M f e x)(hw:M.wf)(hE:Ext M M')(hg:GoodS (lv:Int) f M' x 0 x')(hlv:lv+1<n):RootOk n (ss++[lv]) M0 M' f e x':=
 ⟨hg.lead,hg.ok,fun ps hp=>by
  rw [runL_snoc,hg.tabP (by rw [runL_len,hp];exact hlv),tabP_ext hw hE h.lead]
  exact h.tab ps hp,fun hr=>hg.right (rightK_ext hE hw (h.right hr))⟩

def RootsOk (n:Nat)(ss:List Nat)(M0 M:St)(rs:List (Int×Edge))(es:List Edge):Prop:=
 es.length=rs.length∧∀ (i:Nat) (r:Int×Edge) (x:Edge),rs[i]?=some r→es[i]?=some x→RootOk n ss M0 M r.1 r.2 x

def RootsMid (n:Nat)(ss:List Nat)(lv d:Nat)(M0 M:St)(rs:List (Int×Edge))(es:List Edge):Prop:=
 es.length=rs.length∧∀ (i:Nat) (r:Int×Edge) (x:Edge),rs[i]?=some r→es[i]?=some x→RootOk n (if i<d then ss++[lv] else ss) M0 M r.1 r.2 x

theorem RootsOk.mid {n:Nat}{ss:List Nat}{M0 M:St}{rs:List (Int×Edge)}{es:List Edge}(h:RootsOk n ss M0 M rs es)(lv:Nat):RootsMid n ss lv 0 M0 M rs es:=
 ⟨h.1,fun i r x h1 h2=>by rw [if_neg (by omega)];exact h.2 i r x h1 h2⟩

theorem RootsMid.all {n:Nat}{ss:List Nat}{lv:Nat}{M0 M:St}{rs:List (Int×Edge)}{es:List Edge}(h:RootsMid n ss lv rs.length M0 M rs es):RootsOk n (ss++[lv]) M0 M rs es:=
 ⟨h.1,fun i r x h1 h2=>by
  have:=h.2 i r x h1 h2
  rw [if_pos (List.getElem?_eq_some_iff.1 h1).1] at this
  exact this⟩

theorem RootsMid.next {n:Nat}{ss:List Nat}{lv d:Nat}{M0 M M':St}{rs:List (Int×Edge)}{es:List Edge}{r:Int×Edge}{x x':Edge}(h:RootsMid n ss lv d M0 M rs es)(hr:rs[d]?=some r)(hx:es[d]?=some x)(hw:M.wf)(hE:Ext M M')(hg:GoodS (lv:Int) r.1 M' x 0 x')(hlv:lv+1<n) :
  RootsMid n ss lv (d+1) M0 M' rs (es.set d x'):=by
 refine⟨by rw [List.length_set];exact h.1,fun i q y h1 h2=>?_⟩
 by_cases hid:i=d
 ·subst hid
  rw [hr] at h1
  cases h1
  rw [List.getElem?_set_self (List.getElem?_eq_some_iff.1 hx).1] at h2
  cases h2
  have:=h.2 i r x hr hx
  rw [if_neg (by omega)] at this
  rw [if_pos (by omega)]
  exact this.step hw hE hg hlv
 ·rw [List.getElem?_set_ne (fun e=>hid e.symm)] at h2
  have:=(h.2 i q y h1 h2).ext hw hE
  by_cases hlt:i<d
  ·rw [if_pos hlt] at this
   rw [if_pos (by omega)]
   exact this
  ·rw [if_neg hlt] at this
   rw [if_neg (by omega)]
   exact this

structure StepsAt (ps qs:List Int)(i:Nat)(ss:List Nat):Prop where
 same:∀ j,j<i→(runL ps ss)[j]?=qs[j]?
 fit:∀ s∈ss,s+1<ps.length
 few:ss.length≤i*ps.length

structure StepsIn (ps qs:List Int)(i p:Nat)(x:Int)(ss:List Nat):Prop where
 same:∀ j,j<i→(runL ps ss)[j]?=qs[j]?
 fit:∀ s∈ss,s+1<ps.length
 few:ss.length+p≤i*ps.length+ps.length
 here:(runL ps ss)[p]?=some x
 low:i≤p

theorem StepsIn.lt {ps qs:List Int}{i p:Nat}{x:Int}{ss:List Nat}(h:StepsIn ps qs i p x ss):p<ps.length:=by
 have:=(List.getElem?_eq_some_iff.1 h.here).1
 rwa [runL_len] at this

theorem StepsAt.start (ps qs:List Int):StepsAt ps qs 0 []:=⟨fun j hj=>by omega,(fun s hs=>by cases hs),by simp⟩

theorem StepsIn.next {ps qs:List Int}{i p:Nat}{x:Int}{ss:List Nat}(h:StepsIn ps qs i (p+1) x ss)(hp:i≤p):StepsIn ps qs i p x (ss++[p]):=by
 have hl:=h.lt
 have hl2:p+1<(runL ps ss).length:=by rw [runL_len];exact hl
 refine⟨fun j hj=>?_,fun s hs=>?_,?_,?_,hp⟩
 ·rw [runL_snoc,stepL_get hl2,if_neg (by omega),if_neg (by omega)]
  exact h.same j hj
 ·rcases List.mem_append.1 hs with g|g
  ·exact h.fit s g
  ·simp at g;subst g;exact hl
 ·have:=h.few
  rw [List.length_append,List.length_singleton]
  omega
 ·rw [runL_snoc,stepL_get hl2,if_pos rfl]
  exact h.here

theorem StepsIn.out {ps qs:List Int}{i:Nat}{x:Int}{ss:List Nat}(h:StepsIn ps qs i i x ss)(hx:qs[i]?=some x):StepsAt ps qs (i+1) ss:=by
 refine⟨fun j hj=>?_,h.fit,?_⟩
 ·by_cases e:j=i
  ·subst e
   rw [h.here,hx]
  ·exact h.same j (by omega)
 ·have:=h.few
  rw [Nat.add_mul]
  omega

theorem StepsAt.low {ps qs:List Int}{i k:Nat}{x:Int}{ss:List Nat}(h:StepsAt ps qs i ss)(hq:permB qs=true)(hx:qs[i]?=some x)(hk:(runL ps ss)[k]?=some x):StepsIn ps qs i k x ss:=by
 have hl:=(List.getElem?_eq_some_iff.1 hk).1
 rw [runL_len] at hl
 refine⟨h.same,h.fit,by have:=h.few;omega,hk,?_⟩
 apply Classical.byContradiction
 intro hlt
 have e:=h.same k (by omega)
 rw [hk] at e
 have:=nodup_get (permB_iff.1 hq).2.2 hx e.symm
 omega

theorem StepsAt.has {ps qs:List Int}{i:Nat}{x:Int}{ss:List Nat}(h:StepsAt ps qs i ss)(hp:permB ps=true)(hq:permB qs=true)(hl:ps.length=qs.length)(hx:qs[i]?=some x):x∈runL ps ss:=by
 have h1:=runL_perm ss ps h.fit hp
 have h2:=(permB_iff.1 hq).2.1 x (List.mem_of_getElem? hx)
 have h3:=(permB_perm.1 h1).2
 rw [runL_len] at h3
 exact h3.symm.subset (mem_numsI.2 ⟨h2.1,by omega⟩)

theorem StepsAt.done {ps qs:List Int}{ss:List Nat}(h:StepsAt ps qs ps.length ss)(hl:ps.length=qs.length):runL ps ss=qs:=by
 apply List.ext_getElem?
 intro j
 by_cases hj:j<ps.length
 ·exact h.same j hj
 ·rw [List.getElem?_eq_none (by rw [runL_len];omega),List.getElem?_eq_none (by omega)]

open Go.RowKit

def RowE (w:World)(g:Nat)(es:List Edge):Prop:=∃ cur:Array Value,w.heap[g]?=some (.cells cur 25 (0,0))∧∀ (i:Nat) (e:Edge),es[i]?=some e→cur[i*2]?=some (Value.int .u8 e.tag)∧cur[i*2+1]?=some (Value.int .u32 e.to)

theorem RowE.cell {w:World}{g:Nat}{es:List Edge}(h:RowE w g es){i:Nat}{e:Edge}(hx:es[i]?=some e):w.cell? ⟨g,i*2,none⟩=some (.int .u8 e.tag)∧w.cell? ⟨g,i*2+1,none⟩=some (.int .u32 e.to):=by
 obtain⟨cur,h1,h2⟩:=h
 obtain⟨a,b⟩:=h2 i e hx
 exact⟨by rw [cell_of_row w g _ _ _ _ h1];simp only [a],by rw [cell_of_row w g _ _ _ _ h1];simp only [b]⟩

theorem RowE.frozen {w:World}{g:Nat}{es:List Edge}(h:RowE w g es)(i:Nat):w.frozen? ⟨g,i,none⟩=false:=by
 obtain⟨cur,h1,h2⟩:=h
 exact frozen_of_row w g i _ _ h1

theorem RowE.lt {w:World}{g:Nat}{es:List Edge}(h:RowE w g es):g<w.heap.size:=by
 obtain⟨cur,h1,h2⟩:=h
 exact lt_of_heap h1

theorem RowE.keep {G:Nat→Prop}{w w':World}{g:Nat}{es:List Edge}(h:RowE w g es)(hu:Upd G w w')(hg:¬G g):RowE w' g es:=by
 have hl:=h.lt
 obtain⟨cur,h1,h2⟩:=h
 exact⟨cur,(hu.block g hl hg).trans h1,h2⟩

theorem RowE.keeps {w w':World}{g:Nat}{es:List Edge}(h:RowE w g es)(hk:Keeps w w'):RowE w' g es:=h.keep (hk.upd (fun _=>False)) (fun h=>h)

theorem RowE.at {w:World}{g:Nat}{es:List Edge}(h:RowE w g es)(hok:∀ e∈es,e.ok):EdgesAt w (some ⟨g,0,none⟩) es:=fun i e he=>⟨hok e (List.mem_of_getElem? he),g,0,rfl,by rw [Nat.zero_add];exact(h.cell he).1,by rw [Nat.zero_add];exact(h.cell he).2⟩

theorem RowE.set {w:World}{g:Nat}{es:List Edge}(h:RowE w g es)(i:Nat)(e:Edge)(hi:i<es.length):RowE ((w.setCell ⟨g,i*2,none⟩ (.int .u8 e.tag)).setCell ⟨g,i*2+1,none⟩ (.int .u32 e.to)) g (es.set i e):=by
 obtain⟨cur,h1,h2⟩:=h
 have h3:=Go.heap_setCell_same w g (i*2) _ _ (.int .u8 e.tag) h1
 refine⟨_,Go.heap_setCell_same _ g (i*2+1) _ _ (.int .u32 e.to) h3,fun j x hx=>?_⟩
 obtain⟨a,b⟩:=h2 i es[i] (by simp [hi])
 have l1:=(Array.getElem?_eq_some_iff.1 a).1
 have l2:=(Array.getElem?_eq_some_iff.1 b).1
 by_cases hj:i=j
 ·subst hj
  simp [hi] at hx
  subst hx
  constructor
  ·rw [Array.getElem?_setIfInBounds,if_neg (by omega),Array.getElem?_setIfInBounds,if_pos rfl,if_pos l1]
  ·rw [Array.getElem?_setIfInBounds,if_pos rfl,if_pos (by simpa using l2)]
 ·rw [List.getElem?_set_ne hj] at hx
  obtain⟨c,d⟩:=h2 j x hx
  constructor
  ·rw [Array.getElem?_setIfInBounds,if_neg (by omega),Array.getElem?_setIfInBounds,if_neg (by omega)]
   exact c
  ·rw [Array.getElem?_setIfInBounds,if_neg (by omega),Array.getElem?_setIfInBounds,if_neg (by omega)]
   exact d

theorem info_edge:(Tryz.prog.info? 25).map (fun i=>(i.zero,i.size,i.bytes))=some (some (.agg #[.int .u8 0,.int .u32 0]),2,8):=by kernel_rfl

theorem rowE_made {w:World}{blk n:Nat}(h:w.ownsRow blk 25 2 (.slice (some ⟨blk,0,none⟩) n n) n (madeCells (Value.agg #[.int .u8 0,.int .u32 0]).cells (n*2)).toList):RowE w blk (List.replicate n ⟨0,0⟩):=by
 obtain⟨cur0,hcur0⟩:=owns_type h (k:=blk) rfl
 rcases h.2 with⟨h0,_⟩|⟨g',cap',cur,hv,hb,hg,_,_,hs,ht⟩
 ·cases h0
 ·cases hv
  have key:∀ j,j<n*2→cur[j]?=some (if j%2=0 then Value.int .u8 0 else Value.int .u32 0):=fun j hj=>by
   have h1:(madeCells (Value.agg #[.int .u8 0,.int .u32 0]).cells (n*2)).toList[j]?=some (if j%2=0 then Value.int .u8 0 else Value.int .u32 0):=by
    simp [madeCells,Value.cells,hj]
    rcases Nat.mod_two_eq_zero_or_one j with q|q
    ·rw [q];rfl
    ·rw [q];rfl
   rw [← ht,List.getElem?_take,if_pos hj,Array.getElem?_toList] at h1
   exact h1
  refine⟨cur,hg,fun i e he=>?_⟩
  have hi:i<n:=by simpa using (List.getElem?_eq_some_iff.1 he).1
  have hee:e=⟨0,0⟩:=by
   rw [List.getElem?_replicate,if_pos hi] at he
   exact(Option.some.inj he).symm
  subst hee
  constructor
  ·rw [key _ (by omega),if_pos (by omega)]
  ·rw [key _ (by omega),if_neg (by omega)]

theorem ordAt_calls (a:Option Addr)(cap:Nat)(ps:List Int)(w:World)(h:IntsAt w a ps)(hl:ps.length≤16)(i:Nat)(x:Int)(hx:ps[i]?=some x) :
  Calls Tryz.prog 220 #[.slice a ps.length cap,.int .i64 (i:Int)] w fun e w'=>e=.returned (.int .i64 x)∧w=w':=by
 obtain⟨b,off,rfl,hc⟩:=h i x hx
 have hi:=(List.getElem?_eq_some_iff.1 hx).1
 obtain⟨N,hN⟩:∃ N,N=ps.length:=⟨_,rfl⟩
 rw [← hN] at hl hi ⊢
 clear h hx hN
 go_enter Tryz.func220,Tryz.ntmps220
 go_wp2
 go_ret
 exact⟨rfl,rfl⟩

theorem ordVar_calls {F:Nat→Prop}{w:World}{ob:Nat}{ps:List Int}(h:OrdRep F w ob ps)(i:Nat)(x:Int)(hx:ps[i]?=some x) :
  Calls Tryz.prog 208 #[.pointer (some ⟨ob,0,none⟩),.int .i64 (i:Int)] w fun e w'=>e=.returned (.int .i64 x)∧w=w':=by
 obtain⟨va,vc,lg,lc,c0,c1,hi⟩:=h.cells
 have HC:=Lib.hid (ordAt_calls va vc ps w hi h.le i x hx)
 obtain⟨n,hn⟩:∃ n,n=ps.length:=⟨_,rfl⟩
 rw [← hn] at c0 c1 HC
 clear h c1 hi hn hx
 go_enter Tryz.func208,Tryz.ntmps208
 go_wp2_with (first|(go_at_call 220;refine HC.out.mono ?_;rintro e w1 ⟨rfl,rfl⟩)|fail)
 go_ret
 exact⟨rfl,rfl⟩

theorem stage_calls (room:Int)(a:Option Addr)(cap:Nat)(ps:List Int)(w:World)(h:IntsAt w a ps)(hp:permB ps=true)(h0:0≤room)(h1:room≤1048576) :
  Calls Tryz.prog 45 #[.int .i64 room,.slice a ps.length cap] w fun e w'=>∃ sb ob F Fo,e=.returned (.tuple #[.pointer (some ⟨sb,0,none⟩),.pointer (some ⟨ob,0,none⟩),.bool true])∧Keeps w w'∧StoreRep F w' sb (St.new (ps.length:Int) room)∧OrdRep Fo w' ob ps∧(∀ k,F k→¬Fo k)∧(∀ k,F k→w.heap.size≤k)∧(∀ k,Fo k→w.heap.size≤k):=by
 have hl:=(permB_iff.1 hp).1
 have hO:=fun(W:World) (hW:Keeps w W)=>orderOf_calls a cap ps W (h.keeps hW) (by omega)
 have hS:=fun(W:World)=>store_new (ps.length:Int) room W (by omega) (by omega) h0 h1
 simp only [hp,if_true] at hO
 obtain⟨N,hN⟩:∃ N,N=ps.length:=⟨_,rfl⟩
 rw [← hN] at hO hS hl ⊢
 have HO:=Lib.hid hO
 have HS:=Lib.hid hS
 clear hO hS h hp hN
 go_enter Tryz.func45,Tryz.ntmps45
 go_wp2_with (first|(go_at_call 63;refine(HS.out _).mono ?_;rintro e w1 ⟨sb,F,rfl,hk1,hF,hR⟩)|fail)
 refine(HO.out _ hk1).mono ?_
 rintro e w2 ⟨hk2,ob,Fo,rfl,hOR,hFo⟩
 have HR:=Lib.hid hR
 have HOR:=Lib.hid hOR
 clear hR hOR
 go_wp2_with fail
 refine bodyPost_ret (v:=.tuple #[.pointer (some ⟨sb,0,none⟩),.pointer (some ⟨ob,0,none⟩),.bool true]) (by simp [results,Tryz.results45,go_sem]) rfl ⟨sb,ob,F,Fo,rfl,hk1.trans hk2,HR.out.keeps hk2,HOR.out,fun k hk hh=>?_,hF,fun k hk=>?_⟩
 ·have:=HR.out.lt k hk
  have:=hFo k hh
  omega
 ·have:=hFo k hk
  have:=hk1.size
  omega

theorem buildMay_calls {F Fo:Nat→Prop}{w:World}{sb ob:Nat}{M:St}{ps:List Int}(h:StoreRep F w sb M)(ho:OrdRep Fo w ob ps)(hn:M.n=(ps.length:Int))(f:Int)(hf:isFormB f=true) :
  Calls Tryz.prog 150 #[.pointer (some ⟨sb,0,none⟩),.pointer (some ⟨ob,0,none⟩),.int .u8 f] w fun e w'=>e=.returned (.int .u8 0)∧Keeps w w':=by
 have HV:=Lib.hid (fun(W:World) (hW:Keeps w W)=>store_vars (h.keeps hW))
 have HO:=Lib.hid (fun(W:World) (hW:Keeps w W)=>ordVars_calls (ho.keeps hW))
 have hif:=isForm_calls f
 rw [hf] at hif
 have HI:=Lib.hid hif
 rw [hn] at HV
 have hle:=ho.le
 obtain⟨N,hN⟩:∃ N,N=ps.length:=⟨_,rfl⟩
 rw [← hN] at HV HO hle
 clear h ho hn hif hf hN
 go_enter Tryz.func150,Tryz.ntmps150
 go_wp2_with (first|(go_at_call 67;refine(HV.out _ (by(exact kp))).mono ?_;rintro e w1 ⟨rfl,rfl⟩)|(go_at_call 125;refine(HO.out _ (by(exact kp))).mono ?_;rintro e w1 ⟨rfl,rfl⟩)|(go_at_call 153;refine(HI.out _).mono ?_;rintro e w1 ⟨rfl,rfl⟩)|fail)
 go_ret
 exact⟨rfl,by(exact kp)⟩

structure BCtx (F Fo:Nat→Prop)(w:World)(sb ob bb:Nat)(f:Int)(n:Nat)(ps ws:List Int)(aw:Option Addr)(len cap:Nat):Prop where
 c0:w.cell? ⟨bb,0,none⟩=some (.pointer (some ⟨sb,0,none⟩))
 c1:w.cell? ⟨bb,1,none⟩=some (.pointer (some ⟨ob,0,none⟩))
 c2:w.cell? ⟨bb,2,none⟩=some (.int .u8 f)
 c3:w.cell? ⟨bb,3,none⟩=some (.int .i64 (n:Int))
 c4:w.cell? ⟨bb,4,none⟩=some (.slice aw len cap)
 nbb:¬F bb
 words:WordsAt w aw ws
 nw:∀ b off,aw=some ⟨b,off,none⟩→¬F b
 ord:OrdRep Fo w ob ps
 nord:∀ k,Fo k→¬F k

theorem BCtx.lt {F Fo:Nat→Prop}{w:World}{sb ob bb:Nat}{f:Int}{n:Nat}{ps ws:List Int}{aw:Option Addr}{len cap:Nat}(h:BCtx F Fo w sb ob bb f n ps ws aw len cap):bb<w.heap.size:=lt_of_cell h.c0

theorem BCtx.step {F F' Fo:Nat→Prop}{w w':World}{sb ob bb:Nat}{f:Int}{n:Nat}{ps ws:List Int}{aw:Option Addr}{len cap:Nat}(h:BCtx F Fo w sb ob bb f n ps ws aw len cap)(hu:Upd F w w')(hs:∀ j,F' j→F j∨w.heap.size≤j)(hw:0<ws.length):BCtx F' Fo w' sb ob bb f n ps ws aw len cap:=by
 have hlt:=h.lt
 refine⟨hu.cellAt h.nbb h.c0,hu.cellAt h.nbb h.c1,hu.cellAt h.nbb h.c2,hu.cellAt h.nbb h.c3,hu.cellAt h.nbb h.c4,fun hf=>?_,fun i x hx=>?_,fun b off hb hf=>?_,h.ord.keep hu (fun k h1 h2=>h.nord k h1 h2),fun k h1 hf=>?_⟩
 ·rcases hs _ hf with q|q
  ·exact h.nbb q
  ·omega
 ·obtain⟨r,b,off,ha,hc⟩:=h.words i x hx
  exact⟨r,b,off,ha,hu.cellAt (h.nw b off ha) hc⟩
 ·obtain⟨x,hx⟩:∃ x,ws[0]?=some x:=⟨_,List.getElem?_eq_getElem hw⟩
  obtain⟨r,b2,off2,ha,hc⟩:=h.words 0 x hx
  rw [hb] at ha
  cases ha
  have hlc:=lt_of_cell hc
  dsimp only at hlc
  rcases hs _ hf with q|q
  ·exact h.nw b off hb q
  ·omega
 ·rcases hs _ hf with q|q
  ·exact h.nord k h1 q
  ·have:=h.ord.lt k h1
   omega

theorem BCtx.keeps {F Fo:Nat→Prop}{w w':World}{sb ob bb:Nat}{f:Int}{n:Nat}{ps ws:List Int}{aw:Option Addr}{len cap:Nat}(h:BCtx F Fo w sb ob bb f n ps ws aw len cap)(hk:Keeps w w')(hw:0<ws.length):BCtx F Fo w' sb ob bb f n ps ws aw len cap:=h.step (hk.upd F) (fun _ h=>.inl h) hw

def BuiltAt (f:Int)(M:St)(has:Nat→Bool)(vs:List Int)(x:Nat)(l:Int)(e:Edge):Prop:=IsT f M vs.length (bldT has vs x) l e∧rightK M f e l

theorem BuiltAt.ext {f:Int}{M M':St}{has:Nat→Bool}(hE:Ext M M')(hw:M.wf)(hf:1≤f∧f≤5){vs:List Int}{x:Nat}{l:Int}{e:Edge}(h:BuiltAt f M has vs x l e):BuiltAt f M' has vs x l e:=
 ⟨IsT.ext hE hf _ _ _ _ h.1,rightK_ext hE hw h.2⟩

theorem BuiltAt.pair {f:Int}{M:St}{has:Nat→Bool}{v:Int}{vs:List Int}{x:Nat}{l:Int}{lo hi e:Edge}(h1:BuiltAt f M has vs x (l+1) lo)(h2:BuiltAt f M has vs (x ||| 2 ^ v.toNat) (l+1) hi)(h3:Pair f M l lo hi e)(hr:rightK M f e l):BuiltAt f M has (v::vs) x l e:=by
 refine⟨⟨bldT_len has (v::vs) x,lo,hi,?_,?_,h3⟩,hr⟩
 ·show IsT f M vs.length ((bldT has vs x++bldT has vs (x ||| 2 ^ v.toNat)).take (2 ^ vs.length)) (l+1) lo
  rw [List.take_left' (bldT_len has vs x)]
  exact h1.1
 ·show IsT f M vs.length ((bldT has vs x++bldT has vs (x ||| 2 ^ v.toNat)).drop (2 ^ vs.length)) (l+1) hi
  rw [List.drop_left' (bldT_len has vs x)]
  exact h2.1

def BldOut (f:Int)(F:Nat→Prop)(W:World)(sb:Nat)(M:St)(has:Nat→Bool)(vs:List Int)(x:Nat)(l:Int)(r:Ending)(w':World):Prop:=
 ∃ e M',r=.returned (.tuple #[.agg #[.int .u8 e.tag,.int .u32 e.to],.int .u8 0])∧e.ok∧BuiltAt f M' has vs x l e∧(GrownBy M M' ((2 ^ vs.length-1:Nat):Int)∧(M.solid→M'.solid))∧Stood F W w' sb M'

theorem bfrom_zero (f:Int)(hf:isFormB f=true){F Fo:Nat→Prop}{w:World}{sb ob bb:Nat}{M:St}{n:Nat}{ps ws:List Int}{aw:Option Addr}{len cap:Nat}(h:StoreRep F w sb M)(hc:BCtx F Fo w sb ob bb f n ps ws aw len cap)(hl:ws.length=len)(hl2:len≤1048576)(hok:setOkB (n:Int) ws=true)(x:Nat)(hx:x<2 ^ n)(hn:M.n=(n:Int)) :
  Calls Tryz.prog 152 #[.pointer (some ⟨bb,0,none⟩),.int .i64 (n:Int),.int .i64 (x:Int)] w (BldOut f F w sb M (hasB ws) [] x (n:Int)):=by
 have n16:=h.wf.n16
 rw [hn] at n16
 have hV:=fun(W:World) (hW:Keeps w W)=>store_vars (h.keeps hW)
 have hH:=fun(W:World) (hW:Keeps w W)=>setHas_calls n x aw len cap ws W hl hl2 (hc.words.keeps hW) hok hx
 have hO:=fun(W:World)=>one_calls f (n:Int) W hf (by omega) n16
 rw [hn] at hV
 have hff:1≤f∧f≤5:=by simpa [isFormB] using hf
 have hz:BuiltAt f M (hasB ws) [] x (n:Int) (endE f (hasB ws x) (n:Int)):=⟨⟨_,rfl,rfl⟩,by rw [← hn];exact endE_rightK h.wf⟩
 have heok:(endE f (hasB ws x) (n:Int)).ok:=endE_ok (by omega) n16
 have c0:=hc.c0
 have c2:=hc.c2
 have c3:=hc.c3
 have c4:=hc.c4
 have hbb:=hc.lt
 have hx0:x≤65536:=by
  have:2 ^ n≤2 ^ 16:=Nat.pow_le_pow_right (by decide) (by omega)
  have e16:(2:Nat) ^ 16=65536:=rfl
  omega
 obtain⟨b,hb⟩:∃ b,b=hasB ws x:=⟨_,rfl⟩
 rw [← hb] at hz hH heok
 have HV:=Lib.hid hV
 have HH:=Lib.hid hH
 have HO:=Lib.hid hO
 have HS:=Lib.hid h
 have HZ:=Lib.hid hz
 have HEOK:=Lib.hid heok
 have hone:oneE f (n:Int)=endE f true (n:Int):=rfl
 have hzero:(⟨0,0⟩:Edge)=endE f false (n:Int):=rfl
 have HB:=Lib.hid hb
 clear hV hH hO h hc hz hl hl2 hok hn hff hb heok
 have hg0:GrownBy M M ((2 ^ ([]:List Int).length-1:Nat):Int)∧(M.solid→M.solid):=⟨GrownBy.refl HS.out.wf (by decide),fun h=>h⟩
 cases b with
 | true=>
  rw [← hone] at HZ HEOK
  obtain⟨e,he⟩:∃ e,e=oneE f (n:Int):=⟨_,rfl⟩
  rw [← he] at HZ HEOK HO
  clear he hone hzero HB
  go_enter Tryz.func152,Tryz.ntmps152
  go_wp2_with fail
  refine(HV.out _ (by(exact kp))).mono ?_
  rintro r w1 ⟨rfl,rfl⟩
  go_wp2_with fail
  refine(HH.out _ (by(exact kp))).mono ?_
  rintro r w2 ⟨rfl,hk2⟩
  have d2:=hk2.cell (a:=⟨bb,2,none⟩) (v:=.int .u8 f) (by simp [go_sem,c2,hbb])
  have z0:=hk2.cell (a:=⟨w.heap.size,0,none⟩) (v:=.int .u8 0) (by simp [go_sem])
  have z1:=hk2.cell (a:=⟨w.heap.size,1,none⟩) (v:=.int .u32 0) (by simp [go_sem])
  have zf:=fun o:Nat=>hk2.frz (a:=⟨w.heap.size,o,none⟩) (by simp) (by simp [go_sem])
  have s2:=hk2.size
  simp only [World.size_alloc] at s2
  go_wp2_with fail
  refine(HO.out _).mono ?_
  rintro r w3 ⟨rfl,hk3⟩
  have y0:=hk3.cell z0
  have y1:=hk3.cell z1
  have yf:=fun o:Nat=>hk3.frz (a:=⟨w.heap.size,o,none⟩) (by dsimp only;omega) (zf o)
  have s3:=hk3.size
  go_wp2_with fail
  all_goals refine bodyPost_ret (v:=.tuple #[.agg #[.int .u8 e.tag,.int .u32 e.to],.int .u8 0]) (by simp [results,Tryz.results152,go_sem,y0,y1]) rfl ?_
  all_goals refine⟨e,M,rfl,HEOK.out,HZ.out,hg0,(Stood.refl HS.out).keeps (by(exact kp))⟩
 | false=>
  rw [← hzero] at HZ HEOK
  clear hone hzero HB HO
  go_enter Tryz.func152,Tryz.ntmps152
  go_wp2_with fail
  refine(HV.out _ (by(exact kp))).mono ?_
  rintro r w1 ⟨rfl,rfl⟩
  go_wp2_with fail
  refine(HH.out _ (by(exact kp))).mono ?_
  rintro r w2 ⟨rfl,hk2⟩
  have z0:=hk2.cell (a:=⟨w.heap.size,0,none⟩) (v:=.int .u8 0) (by simp [go_sem])
  have z1:=hk2.cell (a:=⟨w.heap.size,1,none⟩) (v:=.int .u32 0) (by simp [go_sem])
  have zf:=fun o:Nat=>hk2.frz (a:=⟨w.heap.size,o,none⟩) (by simp) (by simp [go_sem])
  have s2:=hk2.size
  simp only [World.size_alloc] at s2
  go_wp2_with fail
  all_goals refine bodyPost_ret (v:=.tuple #[.agg #[.int .u8 0,.int .u32 0],.int .u8 0]) (by simp [results,Tryz.results152,go_sem,z0,z1]) rfl ?_
  all_goals refine⟨⟨0,0⟩,M,rfl,HEOK.out,HZ.out,hg0,(Stood.refl HS.out).keeps (by(exact kp))⟩

theorem bfrom_step (f:Int)(hff:isFormB f=true){F Fo:Nat→Prop}{w:World}{sb ob bb:Nat}{M:St}{n l:Nat}{ps ws:List Int}{aw:Option Addr}{len cap:Nat}(v:Int)(vs:List Int)(p:Nat)(hp:2 ^ vs.length=p)(hp1:1≤p)(hp2:p≤65536)(h:StoreRep F w sb M)(hc:BCtx F Fo w sb ob bb f n ps ws aw len cap)(hw0:0<ws.length)(x:Nat)(hx:x<2 ^ n)(hn:M.n=(n:Int))
  (hv:ps[l]?=some v) (hv0:0≤v) (hvn:v<(n:Int)) (hl:l+(vs.length+1)=n) (hroom:M.len+((2*p-1:Nat):Int)≤M.room)
  (ih:∀ (F:Nat→Prop) (W:World) (M:St) (x:Nat),StoreRep F W sb M→BCtx F Fo W sb ob bb f n ps ws aw len cap→x<2 ^ n→M.n=(n:Int)→M.len+((p-1:Nat):Int)≤M.room →
    Calls Tryz.prog 152 #[.pointer (some ⟨bb,0,none⟩),.int .i64 ((l:Int)+1),.int .i64 (x:Int)] W (BldOut f F W sb M (hasB ws) vs x ((l:Int)+1))) :
  Calls Tryz.prog 152 #[.pointer (some ⟨bb,0,none⟩),.int .i64 (l:Int),.int .i64 (x:Int)] w (BldOut f F w sb M (hasB ws) (v::vs) x (l:Int)):=by
 have hf:1≤f∧f≤5:=by simpa [isFormB] using hff
 have n16:n≤16:=by have:=h.wf.n16;omega
 obtain⟨V,rfl⟩:∃ V:Nat,v=(V:Int):=⟨v.toNat,by omega⟩
 have hx0:x<65536:=by
  have:2 ^ n≤2 ^ 16:=Nat.pow_le_pow_right (by decide) n16
  have e16:(2:Nat) ^ 16=65536:=rfl
  omega
 have hV16:2 ^ V<65536:=by
  have:2 ^ V<2 ^ 16:=Nat.pow_lt_pow_right (by decide) (by omega)
  have e16:(2:Nat) ^ 16=65536:=rfl
  omega
 have hxV:x ||| 2 ^ V<2 ^ n:=Nat.or_lt_two_pow hx (Nat.pow_lt_pow_right (by decide) (by omega))
 have nw:¬F w.heap.size:=fun hf=>by have:=h.lt _ hf;omega
 have hVars:=fun(W:World) (hW:Keeps w W)=>store_vars (h.keeps hW)
 rw [hn] at hVars
 have HVars:=Lib.hid hVars
 have HI1:=Lib.hid (fun(W:World) (hk:Keeps w W)=>ih F W M x (h.keeps hk) (hc.keeps hk hw0) hx hn (by omega))
 have HIH:=Lib.hid ih
 have HS:=Lib.hid h
 have HC:=Lib.hid hc
 have HL:=Lib.hid hl
 have HP:=Lib.hid hp
 have HRM:=Lib.hid hroom
 have HFF:=Lib.hid hf
 have HX:=Lib.hid hxV
 have HNN:=Lib.hid hn
 have HVV:=Lib.hid hv
 have HW0:=Lib.hid hw0
 have hb0:=hc.c0
 have hbl:=hc.lt
 have hln:¬(l:Int)=(n:Int):=by omega
 have l16:l≤16:=by omega
 have hwp:=wrap_pow (x:=(V:Int)) (by omega)
 rw [Int.toNat_natCast] at hwp
 have hor:=or_i64 x (2 ^ V) (by omega) (by omega)
 have hpc:((2 ^ V:Nat):Int)=2 ^ V:=by push_cast;rfl
 rw [hpc] at hor
 clear h hc ih hl hp hroom hn hv hVars hxV hpc hx
 go_enter Tryz.func152,Tryz.ntmps152
 go_wp2_with fail
 refine(HVars.out _ (by(exact kp))).mono ?_
 rintro r w0 ⟨rfl,rfl⟩
 go_wp2_with fail
 refine(HI1.out _ (by(exact kp))).mono ?_
 rintro r w1 ⟨lo,M1,rfl,hlok,hm1,⟨hg1,hsd1⟩,hst1⟩
 have z0:=hst1.cell nw (o:=0) (v:=.int .u8 0) (by simp)
 have z1:=hst1.cell nw (o:=1) (v:=.int .u32 0) (by simp)
 have zf:=fun o:Nat=>hst1.frz (b:=w.heap.size) (o:=o) (by simp) nw (by simp [go_sem])
 obtain⟨⟨F1,r1,sub1⟩,u1⟩:=hst1
 have s1:=u1.size
 simp only [World.size_alloc] at sub1 s1
 have u1w:Upd F w w1:=(Keeps.upd ((Keeps.refl w).alloc _) F).trans' u1
 have nF1w:¬F1 w.heap.size:=fun hf=>by rcases sub1 _ hf with q|q;exact nw q;omega
 have nF1n:¬F1 w1.heap.size:=fun hf=>by have:=r1.lt _ hf;omega
 have hC1:=HC.out.step (F':=F1) u1w (fun j hj=>by rcases sub1 j hj with q|q;exact .inl q;right;omega) HW0.out
 have hn1:M1.n=(n:Int):=by rw [hg1.ext.n];exact HNN.out
 have g1l:=hg1.len
 have g1r:=hg1.room
 rw [HP.out] at g1l
 have HI2:=Lib.hid (fun(W:World) (hk:Keeps w1 W)=>HIH.out F1 W M1 (x ||| 2 ^ V) (r1.keeps hk) (hC1.keeps hk HW0.out) HX.out hn1 (by have:=HRM.out;omega))
 have HVr:=Lib.hid (fun(W:World) (hk:Keeps w1 W)=>ordVar_calls (hC1.ord.keeps hk) l (V:Int) HVV.out)
 have b10:=hC1.c0
 have b11:=hC1.c1
 have b12:=hC1.c2
 have hbl1:=hC1.lt
 have HC1:=Lib.hid hC1
 have HR1:=Lib.hid r1
 have HM1:=Lib.hid hm1
 have HG1:=Lib.hid hg1
 have HSD1:=Lib.hid hsd1
 have HU1:=Lib.hid u1w
 have SUB1:=Lib.hid sub1
 have hlw1:w.heap.size<w1.heap.size:=by omega
 have hbw:bb≠w1.heap.size:=by omega
 clear r1 hm1 hg1 u1 u1w hn1 g1l g1r sub1 hC1 hsd1 hb0
 go_wp2_with fail
 refine(HVr.out _ (by(exact kp))).mono ?_
 rintro r w11 ⟨rfl,rfl⟩
 go_wp2_with fail
 refine(HI2.out _ (by(exact kp))).mono ?_
 rintro r w2 ⟨hi,M2,rfl,hhok,hm2,⟨hg2,hsd2⟩,hst2⟩
 have nF1bb:=HC1.out.nbb
 have z0:=hst2.cell nF1w (o:=0) (v:=.int .u8 0) (by simp [go_sem,hlw1,z0])
 have z1:=hst2.cell nF1w (o:=1) (v:=.int .u32 0) (by simp [go_sem,hlw1,z1])
 have zf:=fun o:Nat=>hst2.frz (b:=w.heap.size) (o:=o) (by simp;omega) nF1w (by rw [World.frozen?_alloc_old _ _ _ (by show w.heap.size≠w1.heap.size;omega)];exact zf o)
 have x0:=hst2.cell nF1n (o:=0) (v:=.int .u8 lo.tag) (by simp)
 have x1:=hst2.cell nF1n (o:=1) (v:=.int .u32 lo.to) (by simp)
 have b20:=hst2.cell nF1bb (o:=0) (v:=.pointer (some ⟨sb,0,none⟩)) (by simp [go_sem,hbl1,b10])
 have b22:=hst2.cell nF1bb (o:=2) (v:=.int .u8 f) (by simp [go_sem,hbl1,b12])
 obtain⟨⟨F2,r2,sub2⟩,u2⟩:=hst2
 have s2:=u2.size
 simp only [World.size_alloc] at sub2 s2
 have u2w:Upd F w w2:=(HU1.out.trans' (Keeps.upd ((Keeps.refl w1).alloc _) F)).trans (u2.mono (fun k hk hf=>by
  rcases SUB1.out k hf with q|q
  ·exact .inl q
  ·exact .inr ⟨by omega,hk⟩))
 have nF2w:¬F2 w.heap.size:=fun hf=>by rcases sub2 _ hf with q|q;exact nF1w q;omega
 have nF2n:¬F2 w1.heap.size:=fun hf=>by rcases sub2 _ hf with q|q;exact nF1n q;omega
 have nF2m:¬F2 w2.heap.size:=fun hf=>by have:=r2.lt _ hf;omega
 have hm1':=BuiltAt.ext hg2.ext HG1.out.wf HFF.out HM1.out
 have hn2:M2.n=M.n:=hg2.ext.n.trans HG1.out.ext.n
 have hnn2:M2.n=(n:Int):=hn2.trans HNN.out
 have hlk:(l:Int)+1+(vs.length:Int)=M2.n:=by have:=HL.out;omega
 have hrl:=hm1'.1.leads hg2.wf HFF.out hlk
 have hrh:=hm2.1.leads hg2.wf HFF.out hlk
 have g1l:=HG1.out.len
 have g2l:=hg2.len
 have g1r:=HG1.out.room
 have g2r:=hg2.room
 have hkl:=HL.out
 have hrm:=HRM.out
 rw [HP.out] at g1l g2l
 have hmk:=makesK hg2.wf HFF.out (l:=(l:Int)) (by omega) (by omega) (by omega) hrl hrh hm1'.2 hm2.2
 obtain⟨e,he⟩:∃ e,e=mkE f M2 (mkK f M2 (l:Int) lo hi):=⟨_,rfl⟩
 obtain⟨M3,hM3⟩:∃ M3,M3=actSt M2 (mkK f M2 (l:Int) lo hi):=⟨_,rfl⟩
 have hbo:=hmk.pair
 have hrt:=hmk.right
 have hgr:=hmk.grown
 rw [← he,← hM3] at hbo hrt
 rw [← hM3] at hgr
 have hsd3:M2.solid→M3.solid:=fun hs=>by rw [hM3];exact solid_act hs _
 have HMK:Hid (∀ (W:World),Keeps w2 W→Calls Tryz.prog 111 #[.pointer (some ⟨sb,0,none⟩),.int .u8 f,.int .i64 (l:Int),.agg #[.int .u8 lo.tag,.int .u32 lo.to],.agg #[.int .u8 hi.tag,.int .u32 hi.to]] W fun r w'=>r=.returned (.tuple #[.agg #[.int .u8 e.tag,.int .u32 e.to],.int .u8 0])∧Stood F2 W w' sb M3):=
  Lib.hid (fun W hk=>by
   have hcm:=canon_make (r2.keeps hk) f (l:Int) lo hi hlok hhok
   rw [kAct_mkK HFF.out] at hcm
   have herr:=hmk.err
   refine hcm.mono fun r w' hr=>⟨?_,?_⟩
   ·rw [hr.1,he]
    congr 2
    simp only [Array.mk.injEq,List.cons.injEq,Value.int.injEq,true_and,and_true]
    exact⟨rfl,herr⟩
   ·rw [hM3]
    exact Stood.of hr.2.1 hr.2.2)
 have hfinal:BuiltAt f M3 (hasB ws) ((V:Int)::vs) x (l:Int) e:=by
  refine BuiltAt.pair (BuiltAt.ext hgr.ext hg2.wf HFF.out hm1') ?_ hbo hrt
  exact BuiltAt.ext hgr.ext hg2.wf HFF.out hm2
 have hgrown:GrownBy M M3 ((2 ^ ((V:Int)::vs).length-1:Nat):Int)∧(M.solid→M3.solid):=by
  refine⟨((HG1.out.trans hg2 (Int.le_refl _)).trans hgr ?_),fun hs=>hsd3 (hsd2 (HSD1.out hs))⟩
  rw [List.length_cons,Nat.pow_succ,HP.out]
  omega
 have heok:e.ok:=by
  rw [he]
  exact mkK_ok r2.wf r2.few hlok hhok (by omega) (by have:=r2.wf.n16;omega) HFF.out
 have HFIN:=Lib.hid hfinal
 have HGR:=Lib.hid hgrown
 have HEOK:=Lib.hid heok
 have HU2:=Lib.hid u2w
 have SUB2:=Lib.hid sub2
 have hlw2:w.heap.size<w2.heap.size:=by omega
 have hlw3:w1.heap.size<w2.heap.size:=by omega
 have hbl2:bb<w2.heap.size:=by omega
 have hne1:w2.heap.size≠w1.heap.size:=by omega
 have hne2:w2.heap.size≠w.heap.size:=by omega
 have hne3:w2.heap.size≠bb:=by omega
 clear r2 hm1' hm2 hg2 u2 u2w hn2 hnn2 hlk hrl hrh g1l g2l g1r g2r hkl hrm hmk hbo hrt hgr hfinal hgrown heok he hM3 sub2 hsd2 hsd3 hwp hor
 go_wp2_with fail
 refine wp_region_head 11 #[true,true,true,true,true,true,true,true,true,true,true,false,false,false,false,false] (by kernel_rfl) (by kernel_rfl) ?_
 simp only [List.take_succ_cons,List.take_zero,List.drop_succ_cons,List.drop_zero]
 repeat still_step
 refine wpStill_nil ?_
 refine wpAny_ready (fuel:=4) (rs:=[11]) (by kernel_rfl) (by decide) (AllReady.cons rfl (fun K hK=>?_) AllReady.nil)
 go_simp
 refine(HMK.out _ (by(exact kp))).mono ?_
 rintro r w3 ⟨rfl,hst3⟩
 have z0:=hst3.cell nF2w (o:=0) (v:=.int .u8 0) (by simp [go_sem,hlw2,z0])
 have z1:=hst3.cell nF2w (o:=1) (v:=.int .u32 0) (by simp [go_sem,hlw2,z1])
 have zf:=fun o:Nat=>hst3.frz (b:=w.heap.size) (o:=o) (by simp;omega) nF2w (by simp only [World.frozen?_drew];rw [World.frozen?_alloc_old _ _ _ (by show w.heap.size≠w2.heap.size;omega)];exact zf o)
 have s3:=hst3.upd.size
 simp only [World.size_alloc,World.size_drew] at s3
 have hlw4:w.heap.size<w3.heap.size:=by omega
 have hsub2:∀ j,F2 j→F j∨w.heap.size≤j:=fun j hj=>by
  rcases SUB2.out j hj with q|q
  ·rcases SUB1.out j q with q|q
   ·exact .inl q
   ·right;omega
  ·right;omega
 have hst:=Stood.step hsub2 HU2.out (((Keeps.refl w2).alloc _).drew) hst3
 obtain⟨⟨F3,r3,sub3⟩,u3⟩:=hst3
 simp only [World.size_alloc,World.size_drew] at sub3
 have nF3:¬F3 w.heap.size:=fun hf=>by rcases sub3 _ hf with q|q;exact nF2w q;omega
 have hsub3:∀ j,F3 j→F j∨w.heap.size≤j:=fun j hj=>by
  rcases sub3 j hj with q|q
  ·exact hsub2 j q
  ·right;omega
 have HST:=Lib.hid (Stood.putAt r3 hsub3 hst.upd nF3 (Nat.le_refl _))
 clear hst r3 sub3 u3 nF3 hsub3 hsub2 x0 x1
 refine hK _ _ ?_
 clear hK K
 refine wpAny_take (i:=12) (v:=?_) rfl (by kernel_rfl) (by kernel_rfl) (by kernel_rfl) (fun _ _ _ h=>h) (Or.inl ⟨by rfl,?_⟩) ?_
 rotate_left
 ·intro w;go_simp;try with_reducible rfl
 refine wpAny_take (i:=13) (v:=?_) rfl (by kernel_rfl) (by kernel_rfl) (by kernel_rfl) (fun _ _ _ h=>h) (Or.inl ⟨by rfl,?_⟩) ?_
 rotate_left
 ·intro w;go_simp;try with_reducible rfl
 refine wpAny_ready (rs:=[14]) (by kernel_rfl) (by decide) (AllReady.cons rfl (fun K hK=>?_) AllReady.nil)
 go_simp
 refine hK _ _ ?_
 clear hK K
 refine wpAny_ready (rs:=[15]) (by kernel_rfl) (by decide) (AllReady.cons rfl (fun K hK=>?_) AllReady.nil)
 go_simp
 refine hK _ _ ?_
 clear hK K
 refine wpAny_done (by kernel_rfl) ?_ _
 go_wp2
 all_goals refine bodyPost_ret (v:=.tuple #[.agg #[.int .u8 e.tag,.int .u32 e.to],.int .u8 0]) (by simp [results,Tryz.results152,go_sem,hlw4,z0,z1]) rfl ?_
 all_goals refine⟨e,M3,rfl,HEOK.out,HFIN.out,HGR.out,?_⟩
 all_goals first|exact(HST.out _ _)|exact(HST.out _ _).keeps (by(exact kp))

theorem bfrom_calls (f:Int)(hff:isFormB f=true){Fo:Nat→Prop}{sb ob bb:Nat}{n:Nat}{ps ws:List Int}{aw:Option Addr}{len cap:Nat}(hl:ws.length=len)(hl2:len≤1048576)(hok:setOkB (n:Int) ws=true)(hps:ps.length=n)(hr:∀ v∈ps,0≤v∧v<(n:Int)) :
  ∀ (vs pre:List Int),ps=pre++vs→∀ (F:Nat→Prop) (W:World) (M:St) (x:Nat),StoreRep F W sb M→BCtx F Fo W sb ob bb f n ps ws aw len cap→x<2 ^ n→M.n=(n:Int)→M.len+((2 ^ vs.length-1:Nat):Int)≤M.room →
   Calls Tryz.prog 152 #[.pointer (some ⟨bb,0,none⟩),.int .i64 (pre.length:Int),.int .i64 (x:Int)] W (BldOut f F W sb M (hasB ws) vs x (pre.length:Int)):=by
 have hw0:0<ws.length:=by have:=(setOkB_iff.1 hok).2.1;omega
 have hn16:n≤16:=by have:=(setOkB_iff.1 hok).1;omega
 intro vs
 induction vs with
 | nil=>
  intro pre hpre F W M x h hc hx hn hroom
  rw [List.append_nil] at hpre
  subst hpre
  rw [hps]
  exact bfrom_zero f hff h hc hl hl2 hok x hx hn
 | cons v vs ih=>
  intro pre hpre F W M x h hc hx hn hroom
  have hlen:pre.length+(vs.length+1)=n:=by rw [← hps,hpre,List.length_append,List.length_cons]
  have h16:2 ^ vs.length≤2 ^ 16:=Nat.pow_le_pow_right (by decide) (by omega)
  have e16:(2:Nat) ^ 16=65536:=rfl
  have hpos:0<2 ^ vs.length:=Nat.pow_pos (by decide)
  have e2:2 ^ (vs.length+1)=2*2 ^ vs.length:=by rw [Nat.pow_succ];omega
  have hv:ps[pre.length]?=some v:=by rw [hpre,List.getElem?_append_right (Nat.le_refl _),Nat.sub_self];rfl
  have hvr:=hr v (by rw [hpre];simp)
  rw [List.length_cons,e2] at hroom
  exact bfrom_step f hff v vs (2 ^ vs.length) rfl hpos (by omega) h hc hw0 x hx hn hv hvr.1 hvr.2 hlen hroom (fun F W M x h hc hx hn hroom=>by
   have:=ih (pre++[v]) (by rw [hpre];simp) F W M x h hc hx hn hroom
   rw [List.length_append,List.length_singleton] at this
   exact_mod_cast this)

end Go.Proofs.YtpgcbmbnognieaaGreat
