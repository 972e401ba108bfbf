/-
  Plainly: what bytes are read as; an edge's bytes are read as its text.
-/
import Derived.Test.YtfpjogpjocedaaaGreatPSaveP
namespace Go.Proofs.YtfpjogpjocedaaaGreat
set_option linter.unusedSimpArgs false
set_option linter.unusedVariables false
set_option maxHeartbeats 600000

def numR (most:Nat) (rd:Option (List Int)):Nat × Option (List Int):=
 match rd with
 | none=>(0,none)
 | some bs=>match getB most bs with
  | none=>(0,none)
  | some (n,r)=>(n,some r)

def edgeR (f:Int) (k:Nat) (rd:Option (List Int)):Edge × Option (List Int):=
 if f=5 ∧ (numR (k + 1) rd).1 ≠ 0 then (⟨(numR 16 (numR (k + 1) rd).2).1,(numR (k + 1) rd).1⟩,(numR 16 (numR (k + 1) rd).2).2) else (⟨0,(numR (k + 1) rd).1⟩,(numR (k + 1) rd).2)

def botR (f:Int) (rd:Option (List Int)):Nat × Option (List Int):=
 if f=3 ∨ f=4 then numR 16 (numR 16 rd).2 else numR 16 rd

def recR (f:Int) (k:Nat) (rd:Option (List Int)):Rec × Option (List Int):=
 (⟨f,(numR 16 rd).1,(botR f rd).1,(edgeR f k (botR f rd).2).1,(edgeR f k (edgeR f k (botR f rd).2).2).1⟩,(edgeR f k (edgeR f k (botR f rd).2).2).2)

def recsR (f:Int):Nat → Nat → Option (List Int) → List Rec × Option (List Int)
 | 0,_,rd=>([],rd)
 | j + 1,k,rd=>((recR f k rd).1 :: (recsR f j (k + 1) (recR f k rd).2).1,(recsR f j (k + 1) (recR f k rd).2).2)

def numsR:Nat → Option (List Int) → List Int × Option (List Int)
 | 0,rd=>([],rd)
 | j + 1,rd=>(((numR 16 rd).1:Int) :: (numsR j (numR 16 rd).2).1,(numsR j (numR 16 rd).2).2)

structure Txt where
 vars:Nat
 form:Nat
 perm:List Int
 l:List Rec
 e:Edge

def readB (b:List Int):Option Txt:=
 let v:=numR 16 (some b)
 let f:=numR 5 v.2
 let p:=numsR v.1 f.2
 let k:=numR b.length p.2
 let l:=recsR f.1 k.1 0 k.2
 let e:=edgeR f.1 k.1 l.2
 if e.2=some [] ∧ 1 ≤ f.1 then some ⟨v.1,f.1,p.1,l.1,e.1⟩ else none

theorem numR_put {n most:Nat} (h:n ≤ most) (hn:n < 2 ^ 64) (r:List Int):numR most (some (putB n ++ r))=(n,some r):=by
 unfold numR
 simp only []
 rw [getB_put h hn]

theorem numR_none (most:Nat):numR most none=(0,none):=rfl

theorem edgeR_none (f:Int) (k:Nat):edgeR f k none=(⟨0,0⟩,none):=by
 unfold edgeR
 rw [numR_none,if_neg (by simp)]
 rfl

theorem recR_none (f:Int) (k:Nat):(recR f k none).2=none:=by
 unfold recR botR
 simp only [numR_none,ite_self,edgeR_none]

theorem recsR_none (f:Int):∀ (j k:Nat),(recsR f j k none).2=none:=by
 intro j
 induction j with
 | zero=>intro k;rfl
 | succ j ih=>
  intro k
  show (recsR f j (k + 1) (recR f k none).2).2=none
  rw [recR_none,ih]

theorem recsR_len (f:Int):∀ (j k:Nat) (rd:Option (List Int)),(recsR f j k rd).1.length=j:=by
 intro j
 induction j with
 | zero=>intro k rd;rfl
 | succ j ih=>
  intro k rd
  show ((recsR f j (k + 1) (recR f k rd).2).1).length + 1=j + 1
  rw [ih]

theorem numsR_len:∀ (j:Nat) (rd:Option (List Int)),(numsR j rd).1.length=j:=by
 intro j
 induction j with
 | zero=>intro rd;rfl
 | succ j ih=>
  intro rd
  show ((numsR j (numR 16 rd).2).1).length + 1=j + 1
  rw [ih]

def rawE (S:List Int) (e:Edge):Edge:=⟨e.tag,if e.to < 2 then e.to else (S.idxOf e.to:Int) + 2⟩

def rawRec (S:List Int) (r:Rec):Rec:=⟨r.form,r.top,r.bot,rawE S r.lo,rawE S r.hi⟩

theorem edgeR_edge {f:Int} {S:List Int} {e:Edge} {k:Nat} (he:e.ok) (ht:f ≠ 5 ∨ e.to=0 → e.tag=0) (h16:e.tag ≤ 16) (hin:e.to < 2 ∨ S.idxOf e.to < k) (hk:k ≤ 1048576) (r:List Int):edgeR f k (some (edgeB f S e ++ r))=(rawE S e,some r):=by
 obtain ⟨⟨a1,a2⟩,b1,b2⟩:=he
 have e1:edgeB f S e ++ r=putB (if e.to < 2 then e.to.toNat else S.idxOf e.to + 2) ++ ((if f=5 ∧ 0 < e.to then putB e.tag.toNat else []) ++ r):=by unfold edgeB;rw [List.append_assoc]
 have hn:numR (k + 1) (some (edgeB f S e ++ r))=((if e.to < 2 then e.to.toNat else S.idxOf e.to + 2),some ((if f=5 ∧ 0 < e.to then putB e.tag.toNat else []) ++ r)):=by
  rw [e1]
  exact numR_put (by split <;> omega) (by split <;> omega) _
 have hto:(((if e.to < 2 then e.to.toNat else S.idxOf e.to + 2:Nat)):Int)=if e.to < 2 then e.to else (S.idxOf e.to:Int) + 2:=by split <;> omega
 unfold edgeR rawE
 rw [hn]
 simp only []
 rw [hto]
 by_cases hc:f=5 ∧ 0 < e.to
 ·have hne:(if e.to < 2 then e.to.toNat else S.idxOf e.to + 2) ≠ 0:=by split <;> omega
  rw [if_pos ⟨hc.1,hne⟩,if_pos hc,numR_put (by omega) (by omega)]
  simp only []
  have:((e.tag.toNat:Nat):Int)=e.tag:=by omega
  rw [this]
 ·have h0:e.tag=0:=ht (by omega)
  have hne:¬ (f=5 ∧ (if e.to < 2 then e.to.toNat else S.idxOf e.to + 2) ≠ 0):=fun hh=>hc ⟨hh.1,by have:=hh.2;split at this <;> omega⟩
  rw [if_neg hne,if_neg hc,h0]
  rfl

structure FitE (f:Int) (S:List Int) (k:Nat) (e:Edge):Prop where
 ok:e.ok
 zero:f ≠ 5 ∨ e.to=0 → e.tag=0
 t16:e.tag ≤ 16
 at':e.to < 2 ∨ S.idxOf e.to < k

theorem FitE.read {f:Int} {S:List Int} {k:Nat} {e:Edge} (h:FitE f S k e) (hk:k ≤ 1048576) (r:List Int):edgeR f k (some (edgeB f S e ++ r))=(rawE S e,some r):=
 edgeR_edge h.ok h.zero h.t16 h.at' hk r

theorem recR_rec {f:Int} {S:List Int} {x:Rec} {k:Nat} (hf:x.form=f) (ht:0 ≤ x.top ∧ x.top ≤ 16) (hb:0 ≤ x.bot ∧ x.bot ≤ 16) (hc:x.top=x.bot ∨ f=3 ∨ f=4) (hlo:FitE f S k x.lo) (hhi:FitE f S k x.hi) (hk:k ≤ 1048576) (r:List Int):recR f k (some (recB f S x ++ r))=(rawRec S x,some r):=by
 have e1:recB f S x ++ r=putB x.top.toNat ++ ((if f=3 ∨ f=4 then putB x.bot.toNat else []) ++ (edgeB f S x.lo ++ (edgeB f S x.hi ++ r))):=by unfold recB;simp only [List.append_assoc]
 have n1:numR 16 (some (recB f S x ++ r))=(x.top.toNat,some ((if f=3 ∨ f=4 then putB x.bot.toNat else []) ++ (edgeB f S x.lo ++ (edgeB f S x.hi ++ r)))):=by
  rw [e1]
  exact numR_put (by omega) (by omega) _
 have n2:botR f (some (recB f S x ++ r))=(x.bot.toNat,some (edgeB f S x.lo ++ (edgeB f S x.hi ++ r))):=by
  unfold botR
  rw [n1]
  simp only []
  by_cases h34:f=3 ∨ f=4
  ·rw [if_pos h34,if_pos h34]
   exact numR_put (by omega) (by omega) _
  ·rw [if_neg h34,if_neg h34,List.nil_append]
   have:x.top=x.bot:=by rcases hc with hc | hc;exact hc;exact absurd hc h34
   rw [this]
 unfold recR rawRec
 rw [n2,n1]
 simp only []
 rw [hlo.read hk]
 simp only []
 rw [hhi.read hk]
 have a1:((x.top.toNat:Nat):Int)=x.top:=by omega
 have a2:((x.bot.toNat:Nat):Int)=x.bot:=by omega
 rw [a1,a2,hf]

theorem recsR_recs {M:St} {f:Int} {S:List Int} (hS:S.length ≤ 1048576) (hok:∀ (i:Nat) (x:Int),S[i]?=some x → ∃ r,look M.cs x=some r ∧ r.form=f ∧ (0 ≤ r.top ∧ r.top ≤ 16) ∧ (0 ≤ r.bot ∧ r.bot ≤ 16) ∧ (r.top=r.bot ∨ f=3 ∨ f=4) ∧ FitE f S i r.lo ∧ FitE f S i r.hi) :
  ∀ (T:List Int) (i:Nat) (rest:List Int),S.drop i=T → recsR f T.length i (some (T.flatMap (fun x=>recB f S (grec (look M.cs x))) ++ rest))=(T.map (fun x=>rawRec S (grec (look M.cs x))),some rest):=by
 intro T
 induction T with
 | nil=>intro i rest _;rfl
 | cons x T ih=>
  intro i rest hd
  have hx:S[i]?=some x:=by
   have:=congrArg (fun l=>l[0]?) hd
   simpa using this
  have hd2:S.drop (i + 1)=T:=by
   have:=congrArg (List.drop 1) hd
   simpa [List.drop_drop,Nat.add_comm] using this
  obtain ⟨r,h1,h2,h3,h4,h5,h6,h7⟩:=hok i x hx
  have hi:i ≤ 1048576:=by
   have:=(List.getElem?_eq_some_iff.1 hx).1
   omega
  rw [List.flatMap_cons,List.append_assoc,List.map_cons,h1]
  have:=recR_rec h2 h3 h4 h5 h6 h7 hi (T.flatMap (fun x=>recB f S (grec (look M.cs x))) ++ rest)
  show ((recR f i (some (recB f S r ++ _))).1 :: (recsR f T.length (i + 1) (recR f i (some (recB f S r ++ _))).2).1,(recsR f T.length (i + 1) (recR f i (some (recB f S r ++ _))).2).2)=_
  rw [this]
  simp only []
  rw [ih (i + 1) rest hd2]
  rfl

theorem numsR_nums:∀ (ps:List Int) (rest:List Int),(∀ x ∈ ps,0 ≤ x ∧ x ≤ 16) → numsR ps.length (some (ps.flatMap (fun x=>putB x.toNat) ++ rest))=(ps,some rest):=by
 intro ps
 induction ps with
 | nil=>intro rest _;rfl
 | cons x ps ih=>
  intro rest h
  have hx:=h x (by simp)
  rw [List.flatMap_cons,List.append_assoc]
  have h1:=numR_put (most:=16) (n:=x.toNat) (by omega) (by omega) (ps.flatMap (fun x=>putB x.toNat) ++ rest)
  show (((numR 16 (some (putB x.toNat ++ _))).1:Int) :: (numsR ps.length (numR 16 (some (putB x.toNat ++ _))).2).1,(numsR ps.length (numR 16 (some (putB x.toNat ++ _))).2).2)=_
  rw [h1]
  simp only []
  rw [ih rest (fun y hy=>h y (List.mem_cons_of_mem _ hy))]
  have:((x.toNat:Nat):Int)=x:=by omega
  rw [this]

def rawT (M:St) (ps:List Int) (f:Int) (e:Edge):Txt:=
 ⟨M.n.toNat,f.toNat,ps,(numM M e.to []).map (fun x=>rawRec (numM M e.to []) (grec (look M.cs x))),rawE (numM M e.to []) e⟩

theorem save_form {M:St} (h:M.wf) {id:Int} {r:Rec} (hl:look M.cs id=some r):(∀ x,look M.cs r.lo.to=some x → x.form=r.form) ∧ (∀ x,look M.cs r.hi.to=some x → x.form=r.form):=by
 have g:=h.goodRec hl
 refine ⟨fun x hx=>?_,fun x hx=>?_⟩
 ·rcases (leads_iff.1 g.lo).2 with h2 | ⟨r',a,b,_⟩
  ·rw [look_low h2] at hx;cases hx
  ·rw [a] at hx;cases hx;exact b
 ·rcases (leads_iff.1 g.hi).2 with h2 | ⟨r',a,b,_⟩
  ·rw [look_low h2] at hx;cases hx
  ·rw [a] at hx;cases hx;exact b

theorem numG_form {M:St} (h:M.wf) {f:Int}:∀ (k:Nat) (id:Int) (S:List Int),(∀ r,look M.cs id=some r → r.form=f) → (∀ x ∈ S,∀ r,look M.cs x=some r → r.form=f) → ∀ x ∈ numG M.cs k id S,∀ r,look M.cs x=some r → r.form=f:=by
 intro k
 induction k with
 | zero=>intro id S _ hS x hx;exact hS x hx
 | succ k ih=>
  intro id S hi hS x hx r hr
  unfold numG at hx
  by_cases hm:id ∈ S
  ·rw [if_pos hm] at hx;exact hS x hx r hr
  ·rw [if_neg hm] at hx
   cases hl:look M.cs id with
   | none=>rw [hl] at hx;exact hS x hx r hr
   | some q=>
    rw [hl] at hx
    simp only [] at hx
    have hq:=hi q hl
    obtain ⟨c1,c2⟩:=save_form h hl
    rcases List.mem_append.1 hx with hx | hx
    ·exact ih q.hi.to _ (fun y hy=>(c2 y hy).trans hq) (ih q.lo.to S (fun y hy=>(c1 y hy).trans hq) hS) x hx r hr
    ·rw [List.mem_singleton] at hx
     subst hx
     rw [hl] at hr
     cases hr
     exact hq

theorem idx_take {S:List Int} {x:Int} {i:Nat} (h:x ∈ S.take i):S.idxOf x < i:=by
 have e:S.take i ++ S.drop i=S:=List.take_append_drop i S
 have h1:S.idxOf x=(S.take i).idxOf x:=by
  rw [← idxOf_app (T:=S.drop i) h,e]
 have h2:=List.idxOf_lt_length_of_mem h
 have h3:(S.take i).length ≤ i:=by rw [List.length_take];omega
 omega

theorem fitE_of {M:St} {f:Int} {S:List Int} {k:Nat} {e:Edge} {l:Int} (he:e.ok) (hl:M.leads f e l=true) (hi:e.to < 2 ∨ e.to ∈ S.take k):FitE f S k e:=by
 obtain ⟨hp,_⟩:=leads_iff.1 hl
 obtain ⟨p1,p2,p3,p4,p5,p6,p7,p8⟩:=plainB_iff.1 hp
 refine ⟨he,p7,?_,hi.imp (fun hh=>hh) idx_take⟩
 by_cases h5:f=5 ∧ e.to ≠ 0
 ·have:=p8 h5.1 h5.2;omega
 ·have:=p7 (by omega);omega

theorem edgeB_pos (f:Int) (S:List Int) (e:Edge):1 ≤ (edgeB f S e).length:=by
 unfold edgeB
 rw [List.length_append]
 have:=putB_pos (if e.to < 2 then e.to.toNat else S.idxOf e.to + 2)
 omega

theorem flat_more {α:Type} (g:α → List Int) (hg:∀ x,1 ≤ (g x).length):∀ (l:List α),l.length ≤ (l.flatMap g).length:=by
 intro l
 induction l with
 | nil=>simp
 | cons x l ih=>
  rw [List.flatMap_cons,List.length_append,List.length_cons]
  have:=hg x
  omega

theorem recB_pos (f:Int) (S:List Int) (r:Rec):1 ≤ (recB f S r).length:=by
 unfold recB
 rw [List.length_append]
 have:=edgeB_pos f S r.hi
 omega

theorem read_save {M:St} (h:M.wf) (hfa:FitA M) {ps:List Int} {f:Int} {e:Edge} (hn:M.n=(ps.length:Int)) (hps:∀ x ∈ ps,0 ≤ x ∧ x ≤ 16) (he:e.ok) (hl:M.leads f e 0=true) (hfew:(numM M e.to []).length ≤ 1048576):readB (saveB M ps f e)=some (rawT M ps f e):=by
 obtain ⟨hp,hr⟩:=leads_iff.1 hl
 obtain ⟨p1,p2,p3,p4,p5,p6,p7,p8⟩:=plainB_iff.1 hp
 have hS:NumOk M (numM M e.to []):=(NumOk.nil M).next h hfa e.to
 have hform:∀ x ∈ numM M e.to [],∀ r,look M.cs x=some r → r.form=f:=numG_form h 17 e.to [] (fun r hk=>by
  rcases hr with h2 | ⟨r',a,b,_⟩
  ·rw [look_low h2] at hk;cases hk
  ·rw [a] at hk;cases hk;exact b) (by simp)
 have hin:e.to < 2 ∨ e.to ∈ numM M e.to []:=by
  rcases hr with h2 | ⟨r',a,b,_⟩
  ·exact .inl h2
  ·exact .inr (numM_here h hfa (NumOk.nil M) (by rw [a];simp))
 obtain ⟨S,hSe⟩:∃ S,S=numM M e.to []:=⟨_,rfl⟩
 have hb:saveB M ps f e=putB M.n.toNat ++ (putB f.toNat ++ (ps.flatMap (fun x=>putB x.toNat) ++ (putB S.length ++ (recsB M f S ++ (edgeB f S e ++ []))))):=by
  unfold saveB
  rw [← hSe]
  simp only [List.append_assoc,List.append_nil]
 unfold rawT
 rw [← hSe] at hS hform hin hfew ⊢
 have hlen:S.length ≤ (saveB M ps f e).length:=by
  have h1:=flat_more (fun x=>recB f S (grec (look M.cs x))) (fun x=>recB_pos f S _) S
  have h2:(recsB M f S).length ≤ (saveB M ps f e).length:=by
   rw [hb]
   simp only [List.length_append]
   omega
  exact Nat.le_trans h1 h2
 have r1:=numR_put (n:=M.n.toNat) (most:=16) (by omega) (by omega) (putB f.toNat ++ (ps.flatMap (fun x=>putB x.toNat) ++ (putB S.length ++ (recsB M f S ++ (edgeB f S e ++ [])))))
 have r2:=numR_put (n:=f.toNat) (most:=5) (by omega) (by omega) (ps.flatMap (fun x=>putB x.toNat) ++ (putB S.length ++ (recsB M f S ++ (edgeB f S e ++ []))))
 have r3:=numsR_nums ps (putB S.length ++ (recsB M f S ++ (edgeB f S e ++ []))) hps
 have r4:=numR_put (n:=S.length) (most:=(saveB M ps f e).length) hlen (by omega) (recsB M f S ++ (edgeB f S e ++ []))
 have r5:=recsR_recs (M:=M) (f:=f) (S:=S) hfew (fun i x hx=>by
  have hxS:x ∈ S:=List.mem_of_getElem? hx
  cases hk:look M.cs x with
  | none=>exact absurd hk (hS.known x hxS)
  | some r=>
   have g:=h.goodRec hk
   have ra:=hfa x r hk
   have hf:=hform x hxS r hk
   have t0:=ra.top
   have b0:=ra.bot
   have tb:=g.tb
   have bn:=g.bn
   obtain ⟨q1,q2⟩:=hS.early i x r hx hk
   refine ⟨r,rfl,hf,by omega,by omega,?_,fitE_of ra.lo (hf ▸ g.lo) q1,fitE_of ra.hi (hf ▸ g.hi) q2⟩
   rcases g.chain with c | c
   ·exact .inl c
   ·right
    rw [← hf]
    unfold chainedB at c
    simpa using c) S 0 (edgeB f S e ++ []) rfl
 have r6:edgeR f S.length (some (edgeB f S e ++ []))=(rawE S e,some []):=(fitE_of he hl (hin.imp (fun hh=>hh) (fun hh=>by rw [List.take_length];exact hh))).read hfew []
 have hf2:((f.toNat:Nat):Int)=f:=by omega
 have hn2:M.n.toNat=ps.length:=by omega
 unfold readB
 rw [show some (saveB M ps f e)=some (putB M.n.toNat ++ (putB f.toNat ++ (ps.flatMap (fun x=>putB x.toNat) ++ (putB S.length ++ (recsB M f S ++ (edgeB f S e ++ [])))))) from congrArg some hb,r1]
 simp only []
 rw [r2]
 simp only []
 rw [hn2,r3]
 simp only []
 rw [r4]
 simp only []
 rw [hf2]
 unfold recsB
 rw [r5]
 simp only []
 rw [r6]
 rw [if_pos ⟨rfl,by omega⟩]

open Go Go.RowKit

def BsOff (w:World) (rb:Nat) (a:Option Addr) (bs:List Int):Prop:=∀ i x,bs[i]?=some x → ∃ b off,a=some ⟨b,off,none⟩ ∧ b < rb ∧ w.cell? ⟨b,off + i,none⟩=some (.int .u8 x)

theorem BsOff.at' {w:World} {rb:Nat} {a:Option Addr} {bs:List Int} (h:BsOff w rb a bs):BsAt w a bs:=fun i x hx=>by
 obtain ⟨b,off,h1,_,h2⟩:=h i x hx
 exact ⟨b,off,h1,h2⟩

structure RdRep (w:World) (rb:Nat) (rd:Option (List Int)):Prop where
 ex:∃ a len cap er,w.heap[rb]?=some (.cells #[.slice a len cap,.int .u8 er] 202 (0,0)) ∧ len ≤ cap ∧ ((rd=none ∧ er ≠ 0) ∨ ∃ bs,rd=some bs ∧ er=0 ∧ len=bs.length ∧ BsOff w rb a bs ∧ IsBs bs ∧ bs.length ≤ 1073741824)

theorem getB_num {most:Nat} (hm:most < 2 ^ 64) (bs:List Int):getB most bs=match numB bs with
  | none=>none
  | some (n,r)=>if n ≤ most then some (n,r) else none:=by
 unfold getB numB
 cases getG 10 bs with
 | none=>rfl
 | some p=>
  obtain ⟨n,r⟩:=p
  simp only []
  by_cases h:n < 2 ^ 64
  ·rw [if_pos h]
  ·rw [if_neg h,if_neg (by omega)]

def RdNum (most:Nat) (rb:Nat) (rd:Option (List Int)) (w:World) (e:Ending) (w':World):Prop:=
 (∃ n size:Nat,∃ bs,e=.returned (.tuple #[.int .u64 (n:Int),.int .i64 (size:Int)]) ∧ rd=some bs ∧ getB most bs=some (n,bs.drop size) ∧ 0 < size ∧ size ≤ bs.length ∧ w=w') ∨
 (e=.returned (.tuple #[.int .u64 0,.int .i64 0]) ∧ numR most rd=(0,none) ∧ RdRep w' rb none ∧ Upd (fun k=>k=rb) w w')

set_option maxRecDepth 100000 in
set_option maxHeartbeats 1000000 in
theorem rdnum_calls {w:World} {rb:Nat} {rd:Option (List Int)} (h:RdRep w rb rd) (most:Nat) (hm:most < 2 ^ 64) :
  Calls Tryz.prog 156 #[.pointer (some ⟨rb,0,none⟩),.int .u64 (most:Int)] w (RdNum most rb rd w):=by
 obtain ⟨a,len,cap,er,hb,hlc,hc⟩:=h.ex
 have c0:w.cell? ⟨rb,0,none⟩=some (.slice a len cap):=by rw [cell_of_row w rb 0 _ _ _ hb];rfl
 have c1:w.cell? ⟨rb,1,none⟩=some (.int .u8 er):=by rw [cell_of_row w rb 1 _ _ _ hb];rfl
 have cf:=frozen_of_row w rb 1 _ _ hb
 have HB:=Lib.hid hb
 have HH:=Lib.hid h
 clear h hb
 rcases hc with ⟨rfl,her⟩ | ⟨bs,rfl,rfl,rfl,hof,hbs,hbl⟩
 ·have g1:(er != 0)=true:=by simp [her]
  go_enter Tryz.func156,Tryz.ntmps156
  go_wp2_with fail
  go_ret2
  exact .inr ⟨rfl,rfl,HH.out,Upd.refl _ _⟩
 ·have HN:=Lib.hid (number_calls a cap bs w hof.at' hbs hbl)
  have HG:=Lib.hid (getB_num hm bs)
  have HE:Hid (∀ x:Int,x ≠ 0 → RdRep (w.setCell ⟨rb,1,none⟩ (.int .u8 x)) rb none):=Lib.hid (fun x hx=>⟨⟨a,bs.length,cap,x,heap_setCell_same w rb 1 _ _ _ HB.out,hlc,.inl ⟨rfl,hx⟩⟩⟩)
  obtain ⟨K,hK⟩:∃ K,K=bs.length:=⟨_,rfl⟩
  rw [← hK] at c0 HN
  have HKK:=Lib.hid hK
  clear hof hbs hbl hlc hK
  go_enter Tryz.func156,Tryz.ntmps156
  go_wp2_with fail
  refine HN.out.mono ?_
  rintro e w1 ⟨hh,rfl⟩
  rcases hh with ⟨n,size,rfl,hnb,hs0,hsl⟩ | ⟨x,rfl,hx,hnb⟩
  ·have HG2:=HG.out
   rw [hnb] at HG2
   simp only [] at HG2
   by_cases hle:n ≤ most
   ·rw [if_pos hle] at HG2
    have HG3:=Lib.hid HG2
    have g2:¬ ((most:Int) < (n:Int)):=by omega
    clear HG2 hnb
    go_wp2_with fail
    go_ret2
    exact .inl ⟨n,size,bs,rfl,rfl,HG3.out,hs0,hsl,rfl⟩
   ·rw [if_neg hle] at HG2
    have HG3:=Lib.hid HG2
    have g2:((most:Int) < (n:Int)):=by omega
    clear HG2 hnb
    go_wp2_with fail
    go_ret2
    exact .inr ⟨rfl,by unfold numR;simp only [];rw [HG3.out],HE.out _ (by decide),Upd.setCell (F:=fun k=>k=rb) (p:=⟨rb,1,none⟩) (Upd.refl _ _) (.inl rfl) _⟩
  ·have HG2:=HG.out
   rw [hnb] at HG2
   have HG3:=Lib.hid HG2
   have hx0:x ≠ 0:=by omega
   have g1:(x != 0)=true:=by simp [hx0]
   clear HG2 hnb hx
   go_wp2_with fail
   go_ret2
   exact .inr ⟨rfl,by unfold numR;simp only [];rw [HG3.out],HE.out _ hx0,Upd.setCell (F:=fun k=>k=rb) (p:=⟨rb,1,none⟩) (Upd.refl _ _) (.inl rfl) _⟩

theorem rd_rest {w:World} {rb:Nat} {bs:List Int} {b off cap size k c:Nat} {er:Int} {a':Option Addr} (hb:w.heap[rb]?=some (.cells #[.slice (some ⟨b,off,none⟩) bs.length cap,.int .u8 er] 202 (0,0))) (her:er=0) (hof:BsOff w rb (some ⟨b,off,none⟩) bs) (hbs:IsBs bs) (hbl:bs.length ≤ 1073741824) (hs:size ≤ bs.length) (hk:k=bs.length - size) (hkc:k ≤ c) (ha:size < bs.length → a'=some ⟨b,off + size,none⟩) :
  RdRep (w.setCell ⟨rb,0,none⟩ (.slice a' k c)) rb (some (bs.drop size)):=by
 refine ⟨⟨a',k,c,er,heap_setCell_same w rb 0 _ _ _ hb,hkc,.inr ⟨bs.drop size,rfl,her,by rw [List.length_drop,hk],?_,fun x hx=>hbs x (List.mem_of_mem_drop hx),by rw [List.length_drop];omega⟩⟩⟩
 have hu:Upd (fun k=>k=rb) w (w.setCell ⟨rb,0,none⟩ (.slice a' k c)):=Upd.setCell (F:=fun k=>k=rb) (p:=⟨rb,0,none⟩) (Upd.refl _ _) (.inl rfl) _
 intro i x hx
 rw [List.getElem?_drop] at hx
 obtain ⟨b2,off2,h1,h2,h3⟩:=hof (size + i) x hx
 have hlt:=(List.getElem?_eq_some_iff.1 hx).1
 cases h1
 exact ⟨b,off + size,ha (by omega),h2,by rw [Nat.add_assoc];exact hu.cellAt (fun e=>by omega) h3⟩

set_option maxRecDepth 100000 in
set_option maxHeartbeats 1000000 in
theorem rdNum_calls {w:World} {rb:Nat} {rd:Option (List Int)} (h:RdRep w rb rd) (most:Nat) (hm:most < 2 ^ 64) :
  Calls Tryz.prog 126 #[.pointer (some ⟨rb,0,none⟩),.int .u64 (most:Int)] w fun e w'=>e=.returned (.int .u64 ((numR most rd).1:Int)) ∧ RdRep w' rb (numR most rd).2 ∧ Upd (fun k=>k=rb) w w':=by
 have HN:=Lib.hid (rdnum_calls h most hm)
 have HH:=Lib.hid h
 clear h
 go_enter Tryz.func126,Tryz.ntmps126
 go_wp2_with fail
 refine HN.out.mono ?_
 rintro e w1 hh
 rcases hh with ⟨n,size,bs,rfl,rfl,hg,hs0,hsl,rfl⟩ | ⟨rfl,hno,hr,hu⟩
 ·obtain ⟨a,len,cap,er,hb,hlc,hc⟩:=HH.out.ex
  rcases hc with ⟨hc,_⟩ | ⟨bs',hbe,rfl,rfl,hof,hbs,hbl⟩
  ·cases hc
  ·cases hbe
   have c0:w.cell? ⟨rb,0,none⟩=some (.slice a bs.length cap):=by rw [cell_of_row w rb 0 _ _ _ hb];rfl
   have cf:=frozen_of_row w rb 0 _ _ hb
   have hne:numR most (some bs)=(n,some (bs.drop size)):=by unfold numR;simp only [];rw [hg]
   have HNE:=Lib.hid hne
   obtain ⟨x,hx⟩:∃ x,bs[0]?=some x:=⟨_,List.getElem?_eq_getElem (by omega)⟩
   obtain ⟨b,off,rfl,hbr,hc0⟩:=hof 0 x hx
   have HB:=Lib.hid hb
   have HOF:=Lib.hid hof
   have HBS:=Lib.hid hbs
   obtain ⟨K,hK⟩:∃ K,K=bs.length:=⟨_,rfl⟩
   rw [← hK] at c0 hsl hlc hbl
   have HKK:=Lib.hid hK
   have g1:(0:Int) < (size:Int):=by omega
   have g2:(size:Int) ≤ (K:Int):=by omega
   have g3:(0:Int) ≤ (size:Int):=by omega
   have g4:(K:Int) ≤ (cap:Int):=by omega
   clear hg hb hof hbs hx hc0 hne hK
   by_cases hsc:size < cap
   ·go_wp2_with fail
    go_ret
    exact ⟨by rw [HNE.out];rfl,by rw [HNE.out];exact rd_rest HB.out rfl HOF.out HBS.out (by rw [← HKK.out];omega) (by rw [← HKK.out];omega) (by rw [← HKK.out]) (by omega) (fun _=>rfl),Upd.setCell (F:=fun k=>k=rb) (p:=⟨rb,0,none⟩) (Upd.refl _ _) (.inl rfl) _⟩
   ·have hsc2:cap=size:=by omega
    have hKs:K=size:=by omega
    go_wp2_with fail
    go_ret
    exact ⟨by rw [HNE.out];rfl,by rw [HNE.out];exact rd_rest HB.out rfl HOF.out HBS.out (by rw [← HKK.out];omega) (by rw [← HKK.out];omega) (by rw [← HKK.out];omega) (by omega) (fun hh=>by rw [← HKK.out] at hh;omega),Upd.setCell (F:=fun k=>k=rb) (p:=⟨rb,0,none⟩) (Upd.refl _ _) (.inl rfl) _⟩
 ·have HR:=Lib.hid hr
  have HU:=Lib.hid hu
  have HNO:=Lib.hid hno
  clear hr hu hno
  go_wp2_with fail
  go_ret
  exact ⟨by rw [HNO.out];rfl,by rw [HNO.out];exact HR.out,HU.out⟩

end Go.Proofs.YtfpjogpjocedaaaGreat
