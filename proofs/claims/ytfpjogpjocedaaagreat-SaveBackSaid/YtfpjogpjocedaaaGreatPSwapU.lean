/-
  Plainly: a right edge is its table's own diagram, where its halves are there; so right edges of one table are one.
-/
import Derived.Test.YtfpjogpjocedaaaGreatPSwapQ
namespace Go.Proofs.YtfpjogpjocedaaaGreat
set_option linter.unusedSimpArgs false
set_option linter.unusedVariables false
set_option maxHeartbeats 600000

def Fit0 (M:St):Prop:=∀ id r,look M.cs id=some r → 0 ≤ r.lo.to ∧ 0 ≤ r.hi.to

theorem find_fit0 {M:St} (hw:M.wf) (h:Fit0 M) {q:Rec} (hq:0 ≤ q.lo.to ∧ 0 ≤ q.hi.to):Fit0 (M.findSt q):=by
 unfold St.findSt
 cases M.idOf q with
 | some id=>exact h
 | none=>
  simp only []
  split
  ·exact h
  ·split
   ·exact h
   ·intro id r hr
    rcases (look_put hw.gone id r).1 hr with ⟨_,rfl⟩ | hr
    ·exact hq
    ·exact h id r hr

theorem view_fit0 {M:St} (hw:M.wf) (h:Fit0 M) {f:Int} {e:Edge} {l:Int} (hl:M.leads f e l=true) (h0:0 ≤ l) (h1:l < M.n) (he:0 ≤ e.to) (hv:vErr M (viewAct M f e l)=0) :
  0 ≤ (vLo M (viewAct M f e l)).to ∧ 0 ≤ (vHi M f (viewAct M f e l)).to ∧ Fit0 (vSt M (viewAct M f e l)):=by
 have hout:∀ a,a=(.inl (vOut f l e):(Edge × Edge × Int) ⊕ Rec) → 0 ≤ (vLo M a).to ∧ 0 ≤ (vHi M f a).to ∧ Fit0 (vSt M a):=fun a ha=>by
  subst ha
  refine ⟨?_,?_,h⟩
  ·show 0 ≤ (vOut f l e).1.to
   unfold vOut
   split
   ·exact he
   ·split <;> exact he
  ·show 0 ≤ (vOut f l e).2.1.to
   unfold vOut
   split
   ·exact he
   ·split <;> exact Int.le_refl _
 obtain ⟨va,hva⟩:∃ va,va=viewAct M f e l:=⟨_,rfl⟩
 rw [← hva] at hv ⊢
 have hva2:=hva
 unfold viewAct at hva2
 rw [if_neg (by omega),if_neg (by rw [hl];simp)] at hva2
 split at hva2
 ·rw [hva2]
  exact ⟨he,he,h⟩
 ·cases hk:look M.cs e.to with
  | none=>
   rw [hk] at hva2
   exact hout va hva2
  | some r=>
   rw [hk] at hva2
   simp only [] at hva2
   obtain ⟨r1,r2⟩:=h _ _ hk
   by_cases hlt:l < r.top
   ·rw [if_pos hlt] at hva2
    exact hout va hva2
   ·rw [if_neg hlt] at hva2
    split at hva2
    ·rw [hva2] at hv ⊢
     change M.findErr ⟨r.form,r.top + 1,r.bot,r.lo,r.hi⟩=0 at hv
     have hid:0 ≤ (foundE M 0 ⟨r.form,r.top + 1,r.bot,r.lo,r.hi⟩).to:=by
      rw [foundE_ok hv]
      show 0 ≤ M.findId _
      unfold St.findErr at hv
      unfold St.findId
      cases hi:M.idOf ⟨r.form,r.top + 1,r.bot,r.lo,r.hi⟩ with
      | some id=>have:=(look_some (idOf_look hi)).1;simp only [];omega
      | none=>
       rename_i hcc
       have g:=hw.goodRec hk
       have hrf:r.form=f:=(leads_some hl hk).1
       have hb:M.bad ⟨r.form,r.top + 1,r.bot,r.lo,r.hi⟩=false:=rest_good g hw.n16 (by have:=(leads_some hl hk).2.1;omega) (by rw [hrf];exact hcc.1) hcc.2
       have:=(find_zero hw hb (by unfold St.findErr;rw [hi] at hv ⊢;exact hv)).2.2.2.1
       unfold St.findId at this
       rw [hi] at this
       omega
     refine ⟨hid,?_,find_fit0 hw h ⟨r1,r2⟩⟩
     show 0 ≤ (if M.findErr _=0 then (if f=4 then foundE M 0 _ else r.hi) else ⟨0,0⟩:Edge).to
     rw [if_pos hv]
     split
     ·exact hid
     ·exact r2
    ·rw [hva2]
     exact ⟨r1,r2,h⟩

theorem right_table {f:Int} (hf:1 ≤ f ∧ f ≤ 5):∀ (k:Nat) (l:Int) (M:St) (e:Edge),M.wf → M.room=1048576 → M.len + ((2 ^ k:Nat):Int) ≤ 1048576 → 0 ≤ e.to → Fit0 M → M.leads f e l=true → rightK M f e l → 0 ≤ l → l + (k:Int)=M.n →
  ∃ M',Ext M M' ∧ M'.wf ∧ M'.room=1048576 ∧ M'.len + 1 ≤ M.len + ((2 ^ k:Nat):Int) ∧ Fit0 M' ∧ IsT f M' k (tabE M f e l) l e:=by
 intro k
 induction k with
 | zero=>
  intro l M e hw hr hlen he hfit hl hrt h0 hn
  have hn':l=M.n:=by simpa using hn
  have e0:(M.n - l).toNat=0:=by omega
  refine ⟨M,Ext.refl M,hw,hr,by show M.len + 1 ≤ M.len + ((1:Nat):Int);omega,hfit,?_⟩
  by_cases hz:e.to=0
  ·have:=(good_zero hw hf hf hl h0 hz).own hrt
   rw [e0] at this
   exact this
  ·have hok:e.ok:=by
    obtain ⟨hp,hr2⟩:=leads_iff.1 hl
    obtain ⟨p1,p2,p3,p4,p5,p6,p7,p8⟩:=plainB_iff.1 hp
    have ht:e.to < 2:=by
     rcases hr2 with q | ⟨r,a,b,c,d⟩
     ·exact q
     ·have g:=hw.goodRec a
      have:=g.tb
      have:=g.bn
      omega
    refine ⟨?_,⟨he,by omega⟩⟩
    by_cases h5:f=5
    ·have:=p8 h5 hz
     omega
    ·have:=p7 (.inl h5)
     omega
   have:=(good_end hw hf hf hok hl hn' hz).own hrt
   rw [e0] at this
   exact this
 | succ k ih=>
  intro l M e hw hr hlen he hfit hl hrt h0 hn
  push_cast at hn
  have e2:2 ^ (k + 1)=2 ^ k + 2 ^ k:=by rw [Nat.pow_succ];omega
  have hp:0 < 2 ^ k:=Nat.pow_pos (by decide)
  have h1:l < M.n:=by omega
  have hv0:vErr M (viewAct M f e l)=0:=by
   by_cases hv:vErr M (viewAct M f e l)=0
   ·exact hv
   ·have:=(viewed_full hw hl h1 hv).2.2
    omega
  have hv:=viewed hw hl h1 hv0
  obtain ⟨hp1,hp2,hp3⟩:=view_pair hw hl h0 h1 hv0 hrt rfl rfl rfl
  obtain ⟨olo,ohi,hstep⟩:=view_fit0 hw hfit hl h0 h1 he hv0
  obtain ⟨M1,hM1⟩:∃ N,N=vSt M (viewAct M f e l):=⟨_,rfl⟩
  obtain ⟨lo,hlo⟩:∃ N,N=vLo M (viewAct M f e l):=⟨_,rfl⟩
  obtain ⟨hi,hhi⟩:∃ N,N=vHi M f (viewAct M f e l):=⟨_,rfl⟩
  rw [← hM1,← hlo,← hhi] at hv hp1
  rw [← hM1,← hlo] at hp2
  rw [← hM1,← hhi] at hp3
  rw [← hlo] at olo
  rw [← hhi] at ohi
  rw [← hM1] at hstep
  have n1:=hv.ext.n
  obtain ⟨M2,x1,x2,x3,x4,x5,x7⟩:=ih (l + 1) M1 lo hv.wf (by rw [hv.room];exact hr) (by have:=hv.len;omega) olo hstep hv.llo hp2 (by omega) (by omega)
  have n2:=x1.n
  obtain ⟨M3,y1,y2,y3,y4,y5,y7⟩:=ih (l + 1) M2 hi x2 x3 (by have:=hv.len;omega) ohi x5 (x1.leads hv.lhi) (rightK_ext x1 hv.wf hp3) (by omega) (by omega)
  refine ⟨M3,(hv.ext.trans x1).trans y1,y2,y3,by have:=hv.len;omega,y5,?_⟩
  rw [tabE_ext hv.wf x1 (Weak.of hv.lhi)] at y7
  have hk1:(M1.n - (l + 1)).toNat=k:=by omega
  have tl:(tabE M1 f lo (l + 1)).length=2 ^ k:=by rw [tabE_len,hk1]
  have tl2:(tabE M1 f hi (l + 1)).length=2 ^ k:=by rw [tabE_len,hk1]
  rw [tab_split hv h0 h1]
  refine ⟨by rw [List.length_append,tl,tl2,e2],lo,hi,?_,?_,(hp1.ext x1 hf).ext y1 hf⟩
  ·rw [List.take_left' tl]
   exact IsT.ext y1 hf _ _ _ _ x7
  ·rw [List.drop_left' tl]
   exact y7

theorem right_isT {f:Int} (hf:1 ≤ f ∧ f ≤ 5) {M:St} {e:Edge} {k:Nat} {l:Int} (hw:M.wf) (hlen:M.len + ((2 ^ k:Nat):Int) ≤ 1048576) (he:0 ≤ e.to) (hfit:Fit0 M) (hl:M.leads f e l=true) (hr:rightK M f e l) (h0:0 ≤ l) (hn:l + (k:Int)=M.n) :
  ∃ M',Ext M M' ∧ M'.wf ∧ M'.room=1048576 ∧ M'.len + 1 ≤ M.len + ((2 ^ k:Nat):Int) ∧ Fit0 M' ∧ IsT f M' k (tabE M f e l) l e:=by
 have hE:=Ext.vast M
 obtain ⟨M',x1,x2,x3,x4,x5,x6⟩:=right_table hf k l M.vast e hw.vast rfl hlen he hfit (hE.leads hl) (rightK_ext hE hw hr) h0 hn
 rw [tabE_ext hw hE (Weak.of hl)] at x6
 exact ⟨M',hE.trans x1,x2,x3,x4,x5,x6⟩

theorem StoreRep.fit0 {F:Nat → Prop} {w:World} {sb:Nat} {M:St} (h:StoreRep F w sb M):Fit0 M:=fun id r hr=>by
 have:=h.fit hr
 exact ⟨this.lo.2.1,this.hi.2.1⟩

def numL:List Bool → Nat
 | []=>0
 | b :: l=>(if b then 1 else 0) + 2 * numL l

theorem numL_lt:∀ l:List Bool,numL l < 2 ^ l.length:=by
 intro l
 induction l with
 | nil=>decide
 | cons b l ih=>
  show (if b then 1 else 0) + 2 * numL l < 2 ^ (l.length + 1)
  rw [Nat.pow_succ]
  cases b <;> simp <;> omega

theorem numL_bit:∀ (l:List Bool) (i:Nat),numL l / 2 ^ i % 2=if l.getD i false then 1 else 0:=by
 intro l
 induction l with
 | nil=>intro i;simp [numL]
 | cons b l ih=>
  intro i
  cases i with
  | zero=>
   show ((if b then 1 else 0) + 2 * numL l) / 2 ^ 0 % 2=if b then 1 else 0
   cases b <;> simp <;> omega
  | succ i=>
   show ((if b then 1 else 0) + 2 * numL l) / 2 ^ (i + 1) % 2=if l.getD i false then 1 else 0
   rw [← ih i,Nat.pow_succ,Nat.mul_comm (2 ^ i) 2,← Nat.div_div_eq_div_mul]
   congr 2
   cases b <;> simp <;> omega

def setOkB (n:Int) (ws:List Int):Bool:=decide (0 ≤ n ∧ n ≤ 16) && (decide (ws.length=max 1 (2 ^ n.toNat / 64)) && decide (6 ≤ n ∨ ws.getD 0 0 < 2 ^ 2 ^ n.toNat))

def hasB (ws:List Int) (x:Nat):Bool:=ws.getD (x / 64) 0 / 2 ^ (x % 64) % 2 == 1

theorem setOkB_iff {n:Int} {ws:List Int}:setOkB n ws=true ↔ (0 ≤ n ∧ n ≤ 16) ∧ ws.length=max 1 (2 ^ n.toNat / 64) ∧ (6 ≤ n ∨ ws.getD 0 0 < 2 ^ 2 ^ n.toNat):=by
 unfold setOkB
 rw [Bool.and_eq_true,Bool.and_eq_true,decide_eq_true_eq,decide_eq_true_eq,decide_eq_true_eq]

def wordsL (ts:List Bool):List Int:=(List.range ((ts.length + 63) / 64)).map (fun w=>(numL ((ts.drop (64 * w)).take 64):Int))

theorem wordsL_len (ts:List Bool):(wordsL ts).length=(ts.length + 63) / 64:=by unfold wordsL;simp

theorem wordsL_get {ts:List Bool} {w:Nat} (h:w < (ts.length + 63) / 64):(wordsL ts).getD w 0=(numL ((ts.drop (64 * w)).take 64):Int):=by
 unfold wordsL
 rw [List.getD_eq_getElem?_getD,List.getElem?_map,List.getElem?_range h]
 rfl

theorem hasB_words {ts:List Bool} {x:Nat} (h:x < ts.length):hasB (wordsL ts) x=ts.getD x false:=by
 unfold hasB
 rw [wordsL_get (by omega)]
 have hb:=numL_bit ((ts.drop (64 * (x / 64))).take 64) (x % 64)
 have e:((ts.drop (64 * (x / 64))).take 64).getD (x % 64) false=ts.getD x false:=by
  rw [List.getD_eq_getElem?_getD,List.getD_eq_getElem?_getD,List.getElem?_take_of_lt (by omega),List.getElem?_drop,show 64 * (x / 64) + x % 64=x from by omega]
 rw [e] at hb
 have hc:((numL ((ts.drop (64 * (x / 64))).take 64):Int) / 2 ^ (x % 64)) % 2=((numL ((ts.drop (64 * (x / 64))).take 64) / 2 ^ (x % 64) % 2:Nat):Int):=by push_cast;rfl
 rw [hc,hb]
 cases ts.getD x false <;> rfl

theorem words_max:∀ n:Nat,n ≤ 16 → (2 ^ n + 63) / 64=max 1 (2 ^ n / 64):=by decide

theorem setOkB_words {ts:List Bool} {n:Nat} (hn:n ≤ 16) (hl:ts.length=2 ^ n):setOkB (n:Int) (wordsL ts)=true:=by
 have hp:0 < 2 ^ n:=Nat.pow_pos (by decide)
 refine setOkB_iff.2 ⟨by omega,by rw [wordsL_len,hl,Int.toNat_natCast];exact words_max n hn,?_⟩
 by_cases h6:6 ≤ n
 ·exact .inl (by omega)
 ·right
  rw [wordsL_get (by omega),Int.toNat_natCast]
  have h1:=numL_lt ((ts.drop (64 * 0)).take 64)
  have h2:((ts.drop (64 * 0)).take 64).length ≤ 2 ^ n:=by rw [List.length_take,List.length_drop];omega
  have h3:2 ^ ((ts.drop (64 * 0)).take 64).length ≤ 2 ^ 2 ^ n:=Nat.pow_le_pow_right (by decide) h2
  exact_mod_cast Nat.lt_of_lt_of_le h1 h3

def bldT (has:Nat → Bool):List Int → Nat → List Bool
 | [],x=>[has x]
 | v :: vs,x=>bldT has vs x ++ bldT has vs (x ||| 2 ^ v.toNat)

theorem bldT_len (has:Nat → Bool):∀ (vs:List Int) (x:Nat),(bldT has vs x).length=2 ^ vs.length:=by
 intro vs
 induction vs with
 | nil=>intro x;rfl
 | cons v vs ih=>intro x;show (bldT has vs x ++ bldT has vs _).length=2 ^ (vs.length + 1);rw [List.length_append,ih,ih,Nat.pow_succ];omega

def putV (X:Nat):List Int → Nat → Nat
 | [],x=>x
 | v :: vs,x=>putV X vs (if bitB (X:Int) v=true then x ||| 2 ^ v.toNat else x)

theorem bldT_dnN (has:Nat → Bool) (X:Nat):∀ (vs:List Int) (x:Nat),(bldT has vs x)[dnN X vs]?=some (has (putV X vs x)):=by
 intro vs
 induction vs with
 | nil=>intro x;rfl
 | cons v vs ih=>
  intro x
  show (bldT has vs x ++ bldT has vs (x ||| 2 ^ v.toNat))[vb X v * 2 ^ vs.length + dnN X vs]?=some (has (putV X vs _))
  have hlt:=dnN_lt X vs
  unfold vb
  by_cases hb:bitB (X:Int) v=true
  ·rw [if_pos hb,if_pos hb,List.getElem?_append_right (by rw [bldT_len];omega),bldT_len,show 1 * 2 ^ vs.length + dnN X vs - 2 ^ vs.length=dnN X vs from by omega]
   exact ih _
  ·rw [if_neg hb,if_neg hb,List.getElem?_append_left (by rw [bldT_len];omega),show 0 * 2 ^ vs.length + dnN X vs=dnN X vs from by omega]
   exact ih _

theorem putV_bit (X:Nat):∀ (vs:List Int) (x j:Nat),(∀ v ∈ vs,0 ≤ v) → (putV X vs x).testBit j=(x.testBit j || (decide ((j:Int) ∈ vs) && X.testBit j)):=by
 intro vs
 induction vs with
 | nil=>intro x j _;simp [putV]
 | cons v vs ih=>
  intro x j h
  have h0:=h v (by simp)
  show (putV X vs _).testBit j=_
  rw [ih _ j (fun u hu=>h u (by simp [hu]))]
  obtain ⟨V,rfl⟩:∃ V:Nat,v=(V:Int):=⟨v.toNat,by omega⟩
  rw [bitB_testBit,Int.toNat_natCast]
  by_cases hj:j=V
  ·subst hj
   cases hX:X.testBit j <;> simp [Nat.testBit_or,Nat.testBit_two_pow]
  ·have hne:¬ V=j:=fun e=>hj e.symm
   have hne2:¬ (j:Int)=(V:Int):=by omega
   cases hX:X.testBit V
   ·simp [hne2]
   ·simp [hne2,Nat.testBit_or,Nat.testBit_two_pow,hne]

theorem putV_all {X:Nat} {ps:List Int} (hp:permB ps=true) (hX:X < 2 ^ ps.length):putV X ps 0=X:=by
 obtain ⟨h1,h2,h3⟩:=permB_iff.1 hp
 apply Nat.eq_of_testBit_eq
 intro j
 rw [putV_bit X ps 0 j (fun v hv=>(h2 v hv).1)]
 by_cases hj:j < ps.length
 ·have:(j:Int) ∈ ps:=(permB_perm.1 hp).2.symm.subset (mem_numsI.2 ⟨by omega,by omega⟩)
  simp [this]
 ·have:X.testBit j=false:=Nat.testBit_lt_two_pow (Nat.lt_of_lt_of_le hX (Nat.pow_le_pow_right (by decide) (by omega)))
  simp [this]

open Go.RowKit

theorem ordAt_calls (a:Option Addr) (cap:Nat) (ps:List Int) (w:World) (h:IntsAt w a ps) (hl:ps.length ≤ 16) (i:Nat) (x:Int) (hx:ps[i]?=some x) :
  Calls Tryz.prog 118 #[.slice a ps.length cap,.int .i64 (i:Int)] w fun e w'=>e=.returned (.int .i64 x) ∧ w=w':=by
 obtain ⟨b,off,rfl,hc⟩:=h i x hx
 have hi:=(List.getElem?_eq_some_iff.1 hx).1
 obtain ⟨N,hN⟩:∃ N,N=ps.length:=⟨_,rfl⟩
 rw [← hN] at hl hi ⊢
 clear h hx hN
 go_enter Tryz.func118,Tryz.ntmps118
 go_wp2
 go_ret
 exact ⟨rfl,rfl⟩

theorem ordVar_calls {F:Nat → Prop} {w:World} {ob:Nat} {ps:List Int} (h:OrdRep F w ob ps) (i:Nat) (x:Int) (hx:ps[i]?=some x) :
  Calls Tryz.prog 97 #[.pointer (some ⟨ob,0,none⟩),.int .i64 (i:Int)] w fun e w'=>e=.returned (.int .i64 x) ∧ w=w':=by
 obtain ⟨va,vc,lg,lc,c0,c1,hi⟩:=h.cells
 have HC:=Lib.hid (ordAt_calls va vc ps w hi h.le i x hx)
 obtain ⟨n,hn⟩:∃ n,n=ps.length:=⟨_,rfl⟩
 rw [← hn] at c0 c1 HC
 clear h c1 hi hn hx
 go_enter Tryz.func97,Tryz.ntmps97
 go_wp2_with (first | (go_at_call 118;refine HC.out.mono ?_;rintro e w1 ⟨rfl,rfl⟩) | fail)
 go_ret
 exact ⟨rfl,rfl⟩

theorem ordLevel_calls {F:Nat → Prop} {w:World} {ob:Nat} {ps:List Int} (h:OrdRep F w ob ps) (i v:Nat) (hx:ps[i]?=some (v:Int)) :
  Calls Tryz.prog 70 #[.pointer (some ⟨ob,0,none⟩),.int .i64 (v:Int)] w fun e w'=>e=.returned (.int .i64 (i:Int)) ∧ w=w':=by
 have hle:=h.le
 obtain ⟨⟨va,vc,lg,lc,qs,h1,h2,h3,h4,h5⟩,_⟩:=h
 have c1:w.cell? ⟨ob,1,none⟩=some (.slice (some ⟨lg,0,none⟩) ps.length lc):=by rw [cell_of_row w ob 1 _ _ _ h1];rfl
 have hq:=h2.2 i v hx
 rw [Int.toNat_natCast] at hq
 have HC:=Lib.hid (ordAt_calls (some ⟨lg,0,none⟩) lc qs w h4.ints (by rw [h2.1];exact hle) v (i:Int) hq)
 rw [h2.1] at HC
 obtain ⟨n,hn⟩:∃ n,n=ps.length:=⟨_,rfl⟩
 rw [← hn] at c1 HC
 clear h1 h2 h3 h4 h5 hn hx hq hle
 go_enter Tryz.func70,Tryz.ntmps70
 go_wp2_with (first | (go_at_call 118;refine HC.out.mono ?_;rintro e w1 ⟨rfl,rfl⟩) | fail)
 go_ret
 exact ⟨rfl,rfl⟩

set_option maxRecDepth 100000 in
theorem stage_calls (room:Int) (a:Option Addr) (cap:Nat) (ps:List Int) (w:World) (h:IntsAt w a ps) (hp:permB ps=true) (h0:0 ≤ room) (h1:room ≤ 1048576) :
  Calls Tryz.prog 22 #[.int .i64 room,.slice a ps.length cap] w fun e w'=>∃ sb ob F Fo,e=.returned (.tuple #[.pointer (some ⟨sb,0,none⟩),.pointer (some ⟨ob,0,none⟩),.bool true]) ∧ Keeps w w' ∧ StoreRep F w' sb (St.new (ps.length:Int) room) ∧ OrdRep Fo w' ob ps ∧ (∀ k,F k → ¬ Fo k) ∧ (∀ k,F k → w.heap.size ≤ k) ∧ (∀ k,Fo k → w.heap.size ≤ k):=by
 have hl:=(permB_iff.1 hp).1
 have hO:=fun (W:World) (hW:Keeps w W)=>orderOf_calls a cap ps W (h.keeps hW) (by omega)
 have hS:=fun (W:World)=>store_new (ps.length:Int) room W (by omega) (by omega) h0 h1
 simp only [hp,if_true] at hO
 obtain ⟨N,hN⟩:∃ N,N=ps.length:=⟨_,rfl⟩
 rw [← hN] at hO hS hl ⊢
 have HO:=Lib.hid hO
 have HS:=Lib.hid hS
 clear hO hS h hp hN
 go_enter Tryz.func22,Tryz.ntmps22
 go_wp2_with (first | (go_at_call 31;refine (HS.out _).mono ?_;rintro e w1 ⟨sb,F,rfl,hk1,hF,hR⟩) | fail)
 refine (HO.out _ hk1).mono ?_
 rintro e w2 ⟨hk2,ob,Fo,rfl,hOR,hFo⟩
 have HR:=Lib.hid hR
 have HOR:=Lib.hid hOR
 clear hR hOR
 go_wp2_with fail
 refine bodyPost_ret (v:=.tuple #[.pointer (some ⟨sb,0,none⟩),.pointer (some ⟨ob,0,none⟩),.bool true]) (by simp [results,Tryz.results22,go_sem]) rfl ⟨sb,ob,F,Fo,rfl,hk1.trans hk2,HR.out.keeps hk2,HOR.out,fun k hk hh=>?_,hF,fun k hk=>?_⟩
 ·have:=HR.out.lt k hk
  have:=hFo k hh
  omega
 ·have:=hFo k hk
  have:=hk1.size
  omega

set_option maxRecDepth 100000 in
theorem buildMay_calls {F Fo:Nat → Prop} {w:World} {sb ob:Nat} {M:St} {ps:List Int} (h:StoreRep F w sb M) (ho:OrdRep Fo w ob ps) (hn:M.n=(ps.length:Int)) (f:Int) (hf:isFormB f=true) :
  Calls Tryz.prog 58 #[.pointer (some ⟨sb,0,none⟩),.pointer (some ⟨ob,0,none⟩),.int .u8 f] w fun e w'=>e=.returned (.int .u8 0) ∧ Keeps w w':=by
 have HV:=Lib.hid (fun (W:World) (hW:Keeps w W)=>store_vars (h.keeps hW))
 have HO:=Lib.hid (fun (W:World) (hW:Keeps w W)=>ordVars_calls (ho.keeps hW))
 have hif:=isForm_calls f
 rw [hf] at hif
 have HI:=Lib.hid hif
 rw [hn] at HV
 have hle:=ho.le
 obtain ⟨N,hN⟩:∃ N,N=ps.length:=⟨_,rfl⟩
 rw [← hN] at HV HO hle
 clear h ho hn hif hf hN
 go_enter Tryz.func58,Tryz.ntmps58
 go_wp2_with (first | (go_at_call 44;refine (HV.out _ (by (exact kp))).mono ?_;rintro e w1 ⟨rfl,rfl⟩) | (go_at_call 38;refine (HO.out _ (by (exact kp))).mono ?_;rintro e w1 ⟨rfl,rfl⟩) | (go_at_call 61;refine (HI.out _).mono ?_;rintro e w1 ⟨rfl,rfl⟩) | fail)
 go_ret
 exact ⟨rfl,by (exact kp)⟩

def VarOut (F:Nat → Prop) (w:World) (sb:Nat) (M':St) (x:Edge) (er:Int) (r:Ending) (w':World):Prop:=
 ∃ F',r=.returned (.tuple #[.agg #[.int .u8 x.tag,.int .u32 x.to],.int .u8 er]) ∧ Upd F w w' ∧ StoreRep F' w' sb M' ∧ (∀ j,F' j → F j ∨ w.heap.size ≤ j)

set_option maxRecDepth 100000 in
set_option maxHeartbeats 2000000 in
theorem buildVar_calls {F Fo:Nat → Prop} {w:World} {sb ob:Nat} {M:St} {ps:List Int} (h:StoreRep F w sb M) (ho:OrdRep Fo w ob ps) (hn:M.n=(ps.length:Int)) (f:Int) (hf:isFormB f=true) (i v:Nat) (hx:ps[i]?=some (v:Int)) (x:Edge) (er:Int) (M':St)
  (hC:∀ W,Keeps w W → Calls Tryz.prog 69 #[.pointer (some ⟨sb,0,none⟩),.int .u8 f,.int .i64 0,.int .u16 (2 ^ i),.int .u16 0] W fun r w'=>r=.returned (.tuple #[.agg #[.int .u8 x.tag,.int .u32 x.to],.int .u8 er]) ∧ Upd F W w' ∧ StoreRep (Grow F W w') w' sb M') :
  Calls Tryz.prog 30 #[.pointer (some ⟨sb,0,none⟩),.pointer (some ⟨ob,0,none⟩),.int .u8 f,.int .i64 (v:Int)] w (VarOut F w sb M' x er):=by
 have HM:=Lib.hid (fun (W:World) (hW:Keeps w W)=>buildMay_calls (h.keeps hW) (ho.keeps hW) hn f hf)
 have HV:=Lib.hid (fun (W:World) (hW:Keeps w W)=>store_vars (h.keeps hW))
 have HL:=Lib.hid (fun (W:World) (hW:Keeps w W)=>ordLevel_calls (ho.keeps hW) i v hx)
 have HC:=Lib.hid hC
 have HLT:=Lib.hid h.lt
 have hle:=ho.le
 have hil:=(List.getElem?_eq_some_iff.1 hx).1
 have hvr:=((permB_iff.1 ho.perm).2.1 _ (List.mem_of_getElem? hx)).2
 rw [hn] at HV
 obtain ⟨N,hN⟩:∃ N,N=ps.length:=⟨_,rfl⟩
 rw [← hN] at HV hle hil hvr
 have hvN:¬ (N:Int) ≤ (v:Int):=by omega
 have hi15:(i:Int) ≤ 15:=by omega
 have hp2:(2:Nat) ^ i ≤ 2 ^ 15:=Nat.pow_le_pow_right (by decide) (by omega)
 have hpc:((2 ^ i:Nat):Int)=2 ^ i:=by push_cast;rfl
 have e15:(2:Nat) ^ 15=32768:=rfl
 have hp3:(0:Int) < 2 ^ i:=Int.pow_pos (by decide)
 have hp4:(2:Int) ^ i ≤ 32768:=by omega
 have hwr:(2:Int) ^ i % 65536=2 ^ i:=Int.emod_eq_of_lt (by omega) (by omega)
 clear h ho hn hf hx hC hN hp2 hpc e15
 go_enter Tryz.func30,Tryz.ntmps30
 go_wp2_with (first | (go_at_call 58;refine (HM.out _ (by (exact kp))).mono ?_;rintro e w1 ⟨rfl,hk1⟩) | (go_at_call 44;refine (HV.out _ (by (exact kp))).mono ?_;rintro e w1 ⟨rfl,rfl⟩) | (go_at_call 70;refine (HL.out _ (by (exact kp))).mono ?_;rintro e w1 ⟨rfl,rfl⟩) | fail)
 have hkw:Keeps w w1:=by (exact kp)
 have sz1:=hk1.size
 simp only [World.size_alloc] at sz1
 have r0:=hk1.cell (a:=⟨w.heap.size,0,none⟩) (v:=.int .u8 0) (by simp [go_sem])
 have r1:=hk1.cell (a:=⟨w.heap.size,1,none⟩) (v:=.int .u32 0) (by simp [go_sem])
 have rf:=fun o:Nat=>hk1.frz (a:=⟨w.heap.size,o,none⟩) (by simp) (by simp [go_sem])
 refine (HC.out _ hkw).mono ?_
 rintro r w3 ⟨rfl,hu,hS⟩
 have nR:¬ F w.heap.size:=fun hh=>by have:=HLT.out _ hh;omega
 replace r0:=hu.cellAt nR r0
 replace r1:=hu.cellAt nR r1
 replace rf:=fun o:Nat=>hu.frozen (a:=⟨w.heap.size,o,none⟩) (by show w.heap.size < _;omega) nR (rf o)
 have hout:∀ w',Upd (fun j=>j=w.heap.size) w3 w' → VarOut F w sb M' x er (.returned (.tuple #[.agg #[.int .u8 x.tag,.int .u32 x.to],.int .u8 er])) w':=fun w' hw'=>by
  refine ⟨Grow F w1 w3,rfl,((hkw.upd F).trans' hu).later hw' (fun i hi hh=>by omega),hS.keep hw' (fun k hk hh=>?_),fun j hj=>?_⟩
  ·subst hh
   rcases hk with q | q
   ·exact nR q
   ·omega
  ·rcases hj with q | q
   ·exact .inl q
   ·exact .inr (by omega)
 have HOUT:=Lib.hid hout
 clear hout hS hu hkw hk1
 go_wp2_with fail
 refine bodyPost_ret (v:=.tuple #[.agg #[.int .u8 x.tag,.int .u32 x.to],.int .u8 er]) (by simp [results,Tryz.results30,go_sem,r0,r1]) rfl (HOUT.out _ ?_)
 (repeat (first | with_reducible exact Upd.refl _ _ | refine updR ?_ _ _ | with_reducible refine Upd.alloc ?_ _ | with_reducible refine Upd.drew ?_))

end Go.Proofs.YtfpjogpjocedaaaGreat
