/-
  Plainly: nodes of one store that stand in another one, id for id: the same numbers, the same bytes, the same sets, right just the same.
-/
import Derived.Test.YtfpjogpjocedaaaGreatPMeansA
import Derived.Test.YtfpjogpjocedaaaGreatPTextE
namespace Go.Proofs.YtfpjogpjocedaaaGreat
set_option linter.unusedSimpArgs false
set_option linter.unusedVariables false
set_option maxHeartbeats 600000

def mapE (φ:Int → Int) (e:Edge):Edge:=⟨e.tag,φ e.to⟩

def mapR (φ:Int → Int) (r:Rec):Rec:=⟨r.form,r.top,r.bot,mapE φ r.lo,mapE φ r.hi⟩

structure Emb (M M':St) (D:Int → Prop) (φ:Int → Int):Prop where
 n:M'.n=M.n
 low:∀ z,z < 2 → φ z=z
 inj:∀ x y,D x → D y → φ x=φ y → x=y
 known:∀ x,D x → look M.cs x ≠ none
 here:∀ x r,D x → look M.cs x=some r → look M'.cs (φ x)=some (mapR φ r)
 down:∀ x r,D x → look M.cs x=some r → (r.lo.to < 2 ∨ D r.lo.to) ∧ (r.hi.to < 2 ∨ D r.hi.to)

theorem Emb.high {M M':St} {D:Int → Prop} {φ:Int → Int} (h:Emb M M' D φ) {x:Int} (hx:D x):2 ≤ x ∧ 2 ≤ φ x:=by
 cases hl:look M.cs x with
 | none=>exact absurd hl (h.known x hx)
 | some r=>exact ⟨(look_some hl).1,(look_some (h.here x r hx hl)).1⟩

def InD (D:Int → Prop) (x:Int):Prop:=x < 2 ∨ D x

theorem Emb.inj' {M M':St} {D:Int → Prop} {φ:Int → Int} (h:Emb M M' D φ) {x y:Int} (hx:InD D x) (hy:InD D y) (he:φ x=φ y):x=y:=by
 rcases hx with hx | hx
 ·rcases hy with hy | hy
  ·rw [h.low x hx,h.low y hy] at he;exact he
  ·have:=(h.high hy).2
   rw [h.low x hx] at he
   omega
 ·rcases hy with hy | hy
  ·have:=(h.high hx).2
   rw [h.low y hy] at he
   omega
  ·exact h.inj x y hx hy he

theorem Emb.lookE {M M':St} {D:Int → Prop} {φ:Int → Int} (h:Emb M M' D φ) {x:Int} (hx:InD D x):look M'.cs (φ x)=(look M.cs x).map (mapR φ):=by
 rcases hx with hx | hx
 ·rw [h.low x hx,look_low hx,look_low hx]
  rfl
 ·cases hl:look M.cs x with
  | none=>exact absurd hl (h.known x hx)
  | some r=>rw [h.here x r hx hl];rfl

theorem Emb.low' {M M':St} {D:Int → Prop} {φ:Int → Int} (h:Emb M M' D φ) {x:Int} (hx:InD D x):φ x < 2 ↔ x < 2:=by
 rcases hx with hx | hx
 ·rw [h.low x hx]
 ·have:=h.high hx
  omega

theorem Emb.zero {M M':St} {D:Int → Prop} {φ:Int → Int} (h:Emb M M' D φ) {x:Int} (hx:InD D x):φ x=0 ↔ x=0:=by
 rcases hx with hx | hx
 ·rw [h.low x hx]
 ·have:=h.high hx
  omega

theorem Emb.mem {M M':St} {D:Int → Prop} {φ:Int → Int} (h:Emb M M' D φ) {x:Int} {S:List Int} (hx:InD D x) (hS:∀ y ∈ S,D y):φ x ∈ S.map φ ↔ x ∈ S:=by
 constructor
 ·intro hm
  obtain ⟨y,hy,e⟩:=List.mem_map.1 hm
  have:=h.inj' (.inr (hS y hy)) hx e
  rw [← this]
  exact hy
 ·intro hm
  exact List.mem_map.2 ⟨x,hm,rfl⟩

theorem Emb.numE {M M':St} {D:Int → Prop} {φ:Int → Int} (h:Emb M M' D φ):∀ (k:Nat) (id:Int) (S:List Int),InD D id → (∀ y ∈ S,D y) → numG M'.cs k (φ id) (S.map φ)=(numG M.cs k id S).map φ ∧ ∀ y ∈ numG M.cs k id S,D y:=by
 intro k
 induction k with
 | zero=>intro id S _ hS;exact ⟨rfl,hS⟩
 | succ k ih=>
  intro id S hid hS
  unfold numG
  by_cases hm:id ∈ S
  ·rw [if_pos hm,if_pos ((h.mem hid hS).2 hm)]
   exact ⟨rfl,hS⟩
  ·rw [if_neg hm,if_neg (fun hh=>hm ((h.mem hid hS).1 hh)),h.lookE hid]
   cases hl:look M.cs id with
   | none=>exact ⟨rfl,hS⟩
   | some r=>
    have hD:D id:=by
     rcases hid with hid | hid
     ·rw [look_low hid] at hl;cases hl
     ·exact hid
    obtain ⟨d1,d2⟩:=h.down id r hD hl
    obtain ⟨a1,a2⟩:=ih r.lo.to S d1 hS
    obtain ⟨b1,b2⟩:=ih r.hi.to _ d2 a2
    refine ⟨?_,fun y hy=>?_⟩
    ·show numG M'.cs k (φ r.hi.to) (numG M'.cs k (φ r.lo.to) (S.map φ)) ++ [φ id]=_
     rw [a1,b1,List.map_append,List.map_singleton]
    ·rcases List.mem_append.1 hy with hy | hy
     ·exact b2 y hy
     ·rw [List.mem_singleton] at hy
      rw [hy]
      exact hD

theorem idx_map {φ:Int → Int} {x:Int}:∀ (S:List Int),(∀ y ∈ S,φ y=φ x → y=x) → (S.map φ).idxOf (φ x)=S.idxOf x:=by
 intro S
 induction S with
 | nil=>intro _;rfl
 | cons y S ih=>
  intro h
  rw [List.map_cons,List.idxOf_cons,List.idxOf_cons]
  by_cases hy:y=x
  ·subst hy
   simp
  ·have hne:φ y ≠ φ x:=fun e=>hy (h y (by simp) e)
   have e1:(y == x)=false:=by simp [hy]
   have e2:(φ y == φ x)=false:=by simp [hne]
   rw [e1,e2,ih (fun z hz=>h z (List.mem_cons_of_mem _ hz))]

theorem Emb.bytesE {M M':St} {D:Int → Prop} {φ:Int → Int} (h:Emb M M' D φ) {f:Int} {S:List Int} {e:Edge} (he:InD D e.to) (hS:∀ y ∈ S,D y):edgeB f (S.map φ) (mapE φ e)=edgeB f S e:=by
 have h1:φ e.to < 2 ↔ e.to < 2:=h.low' he
 have h2:(S.map φ).idxOf (φ e.to)=S.idxOf e.to:=idx_map S (fun y hy hh=>h.inj' (.inr (hS y hy)) he hh)
 have h3:0 < φ e.to ↔ 0 < e.to:=by
  rcases he with he | he
  ·rw [h.low _ he]
  ·have:=h.high he;omega
 unfold edgeB
 show putB (if φ e.to < 2 then (φ e.to).toNat else (S.map φ).idxOf (φ e.to) + 2) ++ (if f=5 ∧ 0 < φ e.to then putB e.tag.toNat else [])=_
 rw [h2]
 by_cases hl:e.to < 2
 ·rw [h.low _ hl]
 ·rw [if_neg hl,if_neg (fun hh=>hl (h1.1 hh))]
  congr 1
  by_cases hc:f=5 ∧ 0 < e.to
  ·rw [if_pos hc,if_pos ⟨hc.1,h3.2 hc.2⟩]
  ·rw [if_neg hc,if_neg (fun hh=>hc ⟨hh.1,h3.1 hh.2⟩)]

theorem flatMap_mapped {α β γ:Type} (g:β → List γ) (g':α → List γ) (φ:α → β):∀ (S:List α),(∀ x ∈ S,g (φ x)=g' x) → (S.map φ).flatMap g=S.flatMap g':=by
 intro S
 induction S with
 | nil=>intro _;rfl
 | cons x S ih=>
  intro h
  rw [List.map_cons,List.flatMap_cons,List.flatMap_cons,h x (by simp),ih (fun y hy=>h y (List.mem_cons_of_mem _ hy))]

theorem Emb.saveE {M M':St} {D:Int → Prop} {φ:Int → Int} (h:Emb M M' D φ) {ps:List Int} {f:Int} {e:Edge} (he:InD D e.to):saveB M' ps f (mapE φ e)=saveB M ps f e:=by
 obtain ⟨h1,h2⟩:=h.numE 17 e.to [] he (by simp)
 have h3:numM M' (mapE φ e).to []=(numM M e.to []).map φ:=h1
 have h4:∀ y ∈ numM M e.to [],D y:=h2
 unfold saveB
 rw [h3,List.length_map,h.n,h.bytesE he h4]
 congr 2
 unfold recsB
 refine flatMap_mapped _ _ φ _ fun x hx=>?_
 have hD:=h4 x hx
 cases hl:look M.cs x with
 | none=>exact absurd hl (h.known x hD)
 | some r=>
  obtain ⟨d1,d2⟩:=h.down x r hD hl
  rw [h.here x r hD hl]
  show recB f _ (mapR φ r)=recB f _ r
  unfold recB
  show putB r.top.toNat ++ (if f=3 ∨ f=4 then putB r.bot.toNat else []) ++ edgeB f _ (mapE φ r.lo) ++ edgeB f _ (mapE φ r.hi)=_
  rw [h.bytesE d1 h4,h.bytesE d2 h4]

theorem Emb.leadsE {M M':St} {D:Int → Prop} {φ:Int → Int} (h:Emb M M' D φ) {f l:Int} {e:Edge} (he:InD D e.to) (hl:M.leads f e l=true):M'.leads f (mapE φ e) l=true:=by
 obtain ⟨hp,hr⟩:=leads_iff.1 hl
 obtain ⟨p1,p2,p3,p4,p5,p6,p7,p8⟩:=plainB_iff.1 hp
 refine leads_iff.2 ⟨plainB_iff.2 ⟨p1,p2,by rw [h.n];exact p3,by rw [h.n];exact p4,p5,by rw [h.n];exact p6,fun hh=>p7 (hh.imp (fun hh=>hh) (fun hz=>(h.zero he).1 hz)),fun h5 hz=>by rw [h.n];exact p8 h5 (fun hz0=>hz ((h.zero he).2 hz0))⟩,?_⟩
 rcases hr with hr | ⟨r,a,b,c,d⟩
 ·exact .inl ((h.low' he).2 hr)
 ·refine .inr ⟨mapR φ r,?_,b,c,d⟩
  show look M'.cs (φ e.to)=_
  rw [h.lookE he,a]
  rfl

theorem Emb.wrongE {M M':St} {D:Int → Prop} {φ:Int → Int} (h:Emb M M' D φ) {f x:Int} {r:Rec} (hx:D x) (hl:look M.cs x=some r):wrongB M' f (mapR φ r)=wrongB M f r:=by
 obtain ⟨d1,d2⟩:=h.down x r hx hl
 unfold wrongB
 by_cases h5:f=5
 ·rw [if_pos h5,if_pos h5]
  show (decide (φ r.hi.to=0) && decide (r.lo.tag=r.top + 1))=_
  have:decide (φ r.hi.to=0)=decide (r.hi.to=0):=decide_eq_decide.2 (h.zero d2)
  rw [this]
 ·rw [if_neg h5,if_neg h5]
  show (match look M'.cs (φ r.lo.to) with | none=>false | some y=>decide (y.top=r.bot + 1) && (if f=4 then decide (mapE φ r.lo=mapE φ r.hi) else decide (y.hi=mapE φ r.hi)))=_
  rw [h.lookE d1]
  have edge:∀ a b:Edge,InD D a.to → InD D b.to → decide (mapE φ a=mapE φ b)=decide (a=b):=by
   intro a b ha hb
   refine decide_eq_decide.2 ⟨fun hh=>?_,fun hh=>by rw [hh]⟩
   cases a
   cases b
   unfold mapE at hh
   simp only [Edge.mk.injEq] at hh ⊢
   exact ⟨hh.1,h.inj' ha hb hh.2⟩
  cases hk:look M.cs r.lo.to with
  | none=>rfl
  | some y=>
   have hD:D r.lo.to:=by
    rcases d1 with d1 | d1
    ·rw [look_low d1] at hk;cases hk
    ·exact d1
   obtain ⟨c1,c2⟩:=h.down _ y hD hk
   show (decide (y.top=r.bot + 1) && (if f=4 then decide (mapE φ r.lo=mapE φ r.hi) else decide (mapE φ y.hi=mapE φ r.hi)))=_
   rw [edge _ _ d1 d2,edge _ _ c2 d2]

theorem Emb.reachE {M M':St} {D:Int → Prop} {φ:Int → Int} (h:Emb M M' D φ) {a:Int} (ha:InD D a) {x:Int} (hx:Reaches M'.cs [φ a] x):∃ y,x=φ y ∧ D y ∧ Reaches M.cs [a] y:=by
 refine hx (fun x=>∃ y,x=φ y ∧ D y ∧ Reaches M.cs [a] y) (fun e he hl=>?_) (fun id r hid hl=>?_)
 ·rw [List.mem_singleton] at he
  subst he
  rw [h.lookE ha] at hl
  have hl2:look M.cs a ≠ none:=fun hh=>hl (by rw [hh];rfl)
  have hD:D a:=by
   rcases ha with ha | ha
   ·exact absurd (look_low ha) hl2
   ·exact ha
  exact ⟨a,rfl,hD,Reaches.root (by simp) hl2⟩
 ·obtain ⟨y,rfl,hD,hr⟩:=hid
  cases hk:look M.cs y with
  | none=>exact absurd hk (h.known y hD)
  | some q=>
   have:=h.here y q hD hk
   rw [hl] at this
   cases this
   obtain ⟨d1,d2⟩:=h.down y q hD hk
   obtain ⟨c1,c2⟩:=Reaches.closed M.cs [a] y q hr hk
   refine ⟨fun hh=>?_,fun hh=>?_⟩
   ·have h2:look M'.cs (φ q.lo.to) ≠ none:=hh
    rw [h.lookE d1] at h2
    have hl2:look M.cs q.lo.to ≠ none:=fun hh=>h2 (by rw [hh];rfl)
    exact ⟨q.lo.to,rfl,d1.resolve_left (fun hh=>hl2 (look_low hh)),c1 hl2⟩
   ·have h2:look M'.cs (φ q.hi.to) ≠ none:=hh
    rw [h.lookE d2] at h2
    have hl2:look M.cs q.hi.to ≠ none:=fun hh=>h2 (by rw [hh];rfl)
    exact ⟨q.hi.to,rfl,d2.resolve_left (fun hh=>hl2 (look_low hh)),c2 hl2⟩

theorem Emb.rightLE {M M':St} {D:Int → Prop} {φ:Int → Int} (h:Emb M M' D φ) {f l:Int} {e:Edge} (he:InD D e.to) (hl:rightL M f e l=true):rightL M' f (mapE φ e) l=true:=by
 obtain ⟨h1,h2⟩:=right_iff.1 hl
 refine right_iff.2 ⟨h.leadsE he h1,fun x hx=>?_⟩
 obtain ⟨y,rfl,hD,hr⟩:=h.reachE he hx
 have:=h2 y hr
 cases hk:look M.cs y with
 | none=>exact absurd hk (h.known y hD)
 | some q=>
  rw [hk] at this
  rw [h.here y q hD hk]
  exact (h.wrongE hD hk).trans this

theorem Emb.rightE {M M':St} {D:Int → Prop} {φ:Int → Int} (h:Emb M M' D φ) {f l:Int} {e:Edge} (he:InD D e.to) (hl:kRight M f e l=true):kRight M' f (mapE φ e) l=true:=by
 unfold kRight at hl ⊢
 split at hl
 ·rename_i h1
  rw [if_pos h1]
  exact h.leadsE he hl
 ·rename_i h1
  rw [if_neg h1]
  split at hl
  ·rename_i h2
   rw [if_pos h2]
   exact h.leadsE he hl
  ·rename_i h2
   rw [if_neg h2]
   split at hl
   ·rename_i h3
    rw [if_pos h3]
    exact h.rightLE he hl
   ·rename_i h3
    rw [if_neg h3]
    split at hl
    ·rename_i h4
     rw [if_pos h4]
     exact h.rightLE he hl
    ·rename_i h4
     rw [if_neg h4]
     split at hl
     ·rename_i h5
      rw [if_pos h5]
      exact h.rightLE he hl
     ·cases hl

theorem Emb.hSE {M M':St} {D:Int → Prop} {φ:Int → Int} (h:Emb M M' D φ) {f x:Int}:∀ (K:Nat) (l:Int) (e:Edge),InD D e.to → hS M' f x K l (mapE φ e)=hS M f x K l e:=by
 intro K
 induction K with
 | zero=>
  intro l e he
  show decide (φ e.to ≠ 0)=decide (e.to ≠ 0)
  exact decide_eq_decide.2 (not_congr (h.zero he))
 | succ K ih=>
  intro l e he
  show (if φ e.to=0 then false else if M'.n ≤ l then true else match look M'.cs (φ e.to) with
   | none=>if zeroAt f e l && bitB x l then false else hS M' f x K (l + 1) (mapE φ e)
   | some r=>if l < r.top then (if zeroAt f e l && bitB x l then false else hS M' f x K (l + 1) (mapE φ e)) else hS M' f x K (r.bot + 1) (sideE x r))=_
  rw [h.n,h.lookE he,ih (l + 1) e he]
  by_cases hz:e.to=0
  ·rw [if_pos ((h.zero he).2 hz),hS_no hz]
  ·rw [if_neg (fun hh=>hz ((h.zero he).1 hh))]
   show _=(if e.to=0 then false else _)
   rw [if_neg hz]
   cases hk:look M.cs e.to with
   | none=>rfl
   | some r=>
    have hD:D e.to:=by
     rcases he with he | he
     ·rw [look_low he] at hk;cases hk
     ·exact he
    obtain ⟨d1,d2⟩:=h.down _ r hD hk
    have hs:sideE x (mapR φ r)=mapE φ (sideE x r):=by
     show (if someB x r then mapE φ r.hi else mapE φ r.lo)=_
     unfold sideE
     split <;> rfl
    have hin:InD D (sideE x r).to:=by
     unfold sideE
     split
     ·exact d2
     ·exact d1
    show (if M.n ≤ l then true else if l < r.top then _ else hS M' f x K (r.bot + 1) (sideE x (mapR φ r)))=_
    rw [hs,ih (r.bot + 1) _ hin]

end Go.Proofs.YtfpjogpjocedaaaGreat
