/-
  What an assignment has at levels: Value, clear, free, side; may.
-/
import Derived.Test.YtfpjogpjocedaaaGreatPCube
import Derived.Test.YtfpjogpjocedaaaGreatPKB
import Derived.Test.YtfpjogpjocedaaaGreatPWireD
namespace Go.Proofs.YtfpjogpjocedaaaGreat
set_option linter.unusedSimpArgs false
set_option linter.unusedVariables false
set_option maxHeartbeats 600000
open Go.RowKit

def bitB (x k:Int):Bool:=decide (x / 2 ^ k.toNat % 2=1)

def clearN (x a:Int):Nat → Bool
 | 0=>true
 | n + 1=>!bitB x a && clearN x (a + 1) n

def someB (x:Int) (r:Rec):Bool:=if r.form=3 then !clearN x r.top (r.bot + 1 - r.top).toNat else bitB x r.bot

def sideE (x:Int) (r:Rec):Edge:=if someB x r then r.hi else r.lo

def zeroAt (f:Int) (e:Edge) (l:Int):Bool:=decide (f=2) || decide (f=4) || (decide (f=5) && decide (e.tag ≤ l))

def hS (M:St) (f x:Int):Nat → Int → Edge → Bool
 | 0,_,e=>decide (e.to ≠ 0)
 | k + 1,l,e=>if e.to=0 then false else if M.n ≤ l then true else match look M.cs e.to with
  | none=>if zeroAt f e l && bitB x l then false else hS M f x k (l + 1) e
  | some r=>if l < r.top then (if zeroAt f e l && bitB x l then false else hS M f x k (l + 1) e) else hS M f x k (r.bot + 1) (sideE x r)

theorem find_zero {M:St} (h:M.wf) {r:Rec} (hb:M.bad r=false) (he:M.findErr r=0) :
  look (M.findSt r).cs (M.findId r)=some r ∧ Ext M (M.findSt r) ∧ (M.findSt r).wf ∧ 2 ≤ M.findId r ∧ (M.findSt r).len ≤ M.len + 1 ∧ (M.findSt r).room=M.room:=by
 cases hi:M.idOf r with
 | some id=>
  have hl:=(idOf_iff h.once r id).2 hi
  obtain ⟨a,b,c⟩:=find_old h hl
  rw [b,c]
  exact ⟨hl,Ext.refl M,h,(look_some hl).1,by omega,rfl⟩
 | none=>
  have hroom:M.len < M.room:=by
   unfold St.findErr at he
   rw [hi] at he
   simp only [] at he
   rw [if_neg (by rw [hb];simp)] at he
   split at he
   ·cases he
   ·omega
  obtain ⟨a,b,c,d,e,g⟩:=find_good h hb hroom
  have hg:=grown_find h hb hroom
  exact ⟨b,hg.ext,hg.wf,g,hg.len,hg.room⟩

theorem find_full {M:St} {r:Rec} (hb:M.bad r=false) (he:M.findErr r ≠ 0):M.findErr r=6 ∧ M.findSt r=M ∧ M.room ≤ M.len:=by
 unfold St.findErr at he ⊢
 unfold St.findSt
 cases hi:M.idOf r with
 | some id=>rw [hi] at he;exact absurd rfl he
 | none=>
  rw [hi] at he
  simp only [] at he ⊢
  rw [if_neg (by rw [hb];simp)] at he ⊢
  split at he
  ·rename_i hc
   rw [if_pos hc,if_neg (by rw [hb];simp),if_pos hc]
   exact ⟨rfl,rfl,hc⟩
  ·exact absurd rfl he

open Go.ChangeShapes Go.WideShapes Go.ChangeAt Go.RowKit

def IsInts (w:World) (a:Option Addr) (len:Nat) (ps:List Int):Prop:=ps.length=len ∧ IntsAt w a ps ∧ ∀ x ∈ ps,(Lit.int .i64 x).wf=true

set_option maxRecDepth 100000 in
theorem open_intRow {H:Type} {enc:TypeId × Value → H} {W:World} {base:Nat} {spare:Nat → Bool} {held:Bool} {a:Option Addr} {len cap:Nat} {d:DataW H} {p:List MemPlace}
  (h:DataW.Trod enc Tryz.prog W base spare held 23 (.slice a len cap) d p):∃ ps:List Int,IsInts W a len ps:=by
 obtain ⟨rs,h1,h2⟩:=open_structs (k:=1) (fun (r:Int) cs=>(Lit.int .i64 r).wf=true ∧ cs=[.int .i64 r]) Tryz.underlying23 (by kernel_rfl) (by decide) (fun n cs x hx=>by
  obtain ⟨r,h1,_,h2⟩:=DataW.trod_int Tryz.underlying3 hx
  exact ⟨by rw [h1];rfl,r,h2,h1⟩) h
 refine ⟨rs,h1,fun i r hr=>?_,fun x hx=>?_⟩
 ·obtain ⟨b,off,cs,ha,⟨hok,rfl⟩,hc⟩:=h2 i r hr
  have:=hc 0 (by decide)
  rw [Nat.mul_one,Nat.add_zero] at this
  exact ⟨b,off,ha,this⟩
 ·obtain ⟨i,hi⟩:=List.mem_iff_getElem?.1 hx
  obtain ⟨b,off,cs,ha,⟨hok,rfl⟩,hc⟩:=h2 i x hi
  exact hok

instance:Inhabited (Int × Edge):=⟨(0,Edge.zero)⟩

def mapE (φ:Int → Int) (e:Edge):Edge:=⟨e.tag,φ e.to⟩

def mapR (φ:Int → Int) (r:Rec):Rec:=⟨r.form,r.top,r.bot,mapE φ r.lo,mapE φ r.hi⟩

structure Emb (M M':St) (D:Int → Prop) (φ:Int → Int):Prop where
 n:M'.n=M.n
 low:∀ z,z < 2 → φ z=z
 inj:∀ x y,D x → D y → φ x=φ y → x=y
 known:∀ x,D x → look M.cs x ≠ none
 here:∀ x r,D x → look M.cs x=some r → look M'.cs (φ x)=some (mapR φ r)
 down:∀ x r,D x → look M.cs x=some r → (r.lo.to < 2 ∨ D r.lo.to) ∧ (r.hi.to < 2 ∨ D r.hi.to)

theorem Emb.high {M M':St} {D:Int → Prop} {φ:Int → Int} (h:Emb M M' D φ) {x:Int} (hx:D x):2 ≤ x ∧ 2 ≤ φ x:=by
 cases hl:look M.cs x with
 | none=>exact absurd hl (h.known x hx)
 | some r=>exact ⟨(look_some hl).1,(look_some (h.here x r hx hl)).1⟩

def InD (D:Int → Prop) (x:Int):Prop:=x < 2 ∨ D x

theorem Emb.inj' {M M':St} {D:Int → Prop} {φ:Int → Int} (h:Emb M M' D φ) {x y:Int} (hx:InD D x) (hy:InD D y) (he:φ x=φ y):x=y:=by
 rcases hx with hx | hx
 ·rcases hy with hy | hy
  ·rw [h.low x hx,h.low y hy] at he;exact he
  ·have:=(h.high hy).2
   rw [h.low x hx] at he
   omega
 ·rcases hy with hy | hy
  ·have:=(h.high hx).2
   rw [h.low y hy] at he
   omega
  ·exact h.inj x y hx hy he

theorem Emb.lookE {M M':St} {D:Int → Prop} {φ:Int → Int} (h:Emb M M' D φ) {x:Int} (hx:InD D x):look M'.cs (φ x)=(look M.cs x).map (mapR φ):=by
 rcases hx with hx | hx
 ·rw [h.low x hx,look_low hx,look_low hx]
  rfl
 ·cases hl:look M.cs x with
  | none=>exact absurd hl (h.known x hx)
  | some r=>rw [h.here x r hx hl];rfl

theorem Emb.low' {M M':St} {D:Int → Prop} {φ:Int → Int} (h:Emb M M' D φ) {x:Int} (hx:InD D x):φ x < 2 ↔ x < 2:=by
 rcases hx with hx | hx
 ·rw [h.low x hx]
 ·have:=h.high hx
  omega

theorem Emb.zero {M M':St} {D:Int → Prop} {φ:Int → Int} (h:Emb M M' D φ) {x:Int} (hx:InD D x):φ x=0 ↔ x=0:=by
 rcases hx with hx | hx
 ·rw [h.low x hx]
 ·have:=h.high hx
  omega

theorem Emb.mem {M M':St} {D:Int → Prop} {φ:Int → Int} (h:Emb M M' D φ) {x:Int} {S:List Int} (hx:InD D x) (hS:∀ y ∈ S,D y):φ x ∈ S.map φ ↔ x ∈ S:=by
 constructor
 ·intro hm
  obtain ⟨y,hy,e⟩:=List.mem_map.1 hm
  have:=h.inj' (.inr (hS y hy)) hx e
  rw [← this]
  exact hy
 ·intro hm
  exact List.mem_map.2 ⟨x,hm,rfl⟩

theorem Emb.numE {M M':St} {D:Int → Prop} {φ:Int → Int} (h:Emb M M' D φ):∀ (k:Nat) (id:Int) (S:List Int),InD D id → (∀ y ∈ S,D y) → numG M'.cs k (φ id) (S.map φ)=(numG M.cs k id S).map φ ∧ ∀ y ∈ numG M.cs k id S,D y:=by
 intro k
 induction k with
 | zero=>intro id S _ hS;exact ⟨rfl,hS⟩
 | succ k ih=>
  intro id S hid hS
  unfold numG
  by_cases hm:id ∈ S
  ·rw [if_pos hm,if_pos ((h.mem hid hS).2 hm)]
   exact ⟨rfl,hS⟩
  ·rw [if_neg hm,if_neg (fun hh=>hm ((h.mem hid hS).1 hh)),h.lookE hid]
   cases hl:look M.cs id with
   | none=>exact ⟨rfl,hS⟩
   | some r=>
    have hD:D id:=by
     rcases hid with hid | hid
     ·rw [look_low hid] at hl;cases hl
     ·exact hid
    obtain ⟨d1,d2⟩:=h.down id r hD hl
    obtain ⟨a1,a2⟩:=ih r.lo.to S d1 hS
    obtain ⟨b1,b2⟩:=ih r.hi.to _ d2 a2
    refine ⟨?_,fun y hy=>?_⟩
    ·show numG M'.cs k (φ r.hi.to) (numG M'.cs k (φ r.lo.to) (S.map φ)) ++ [φ id]=_
     rw [a1,b1,List.map_append,List.map_singleton]
    ·rcases List.mem_append.1 hy with hy | hy
     ·exact b2 y hy
     ·rw [List.mem_singleton] at hy
      rw [hy]
      exact hD

theorem idx_map {φ:Int → Int} {x:Int}:∀ (S:List Int),(∀ y ∈ S,φ y=φ x → y=x) → (S.map φ).idxOf (φ x)=S.idxOf x:=by
 intro S
 induction S with
 | nil=>intro _;rfl
 | cons y S ih=>
  intro h
  rw [List.map_cons,List.idxOf_cons,List.idxOf_cons]
  by_cases hy:y=x
  ·subst hy
   simp
  ·have hne:φ y ≠ φ x:=fun e=>hy (h y (by simp) e)
   have e1:(y == x)=false:=by simp [hy]
   have e2:(φ y == φ x)=false:=by simp [hne]
   rw [e1,e2,ih (fun z hz=>h z (List.mem_cons_of_mem _ hz))]

theorem Emb.bytesE {M M':St} {D:Int → Prop} {φ:Int → Int} (h:Emb M M' D φ) {f:Int} {S:List Int} {e:Edge} (he:InD D e.to) (hS:∀ y ∈ S,D y):edgeB f (S.map φ) (mapE φ e)=edgeB f S e:=by
 have h1:φ e.to < 2 ↔ e.to < 2:=h.low' he
 have h2:(S.map φ).idxOf (φ e.to)=S.idxOf e.to:=idx_map S (fun y hy hh=>h.inj' (.inr (hS y hy)) he hh)
 have h3:0 < φ e.to ↔ 0 < e.to:=by
  rcases he with he | he
  ·rw [h.low _ he]
  ·have:=h.high he;omega
 unfold edgeB
 show putB (if φ e.to < 2 then (φ e.to).toNat else (S.map φ).idxOf (φ e.to) + 2) ++ (if f=5 ∧ 0 < φ e.to then putB e.tag.toNat else [])=_
 rw [h2]
 by_cases hl:e.to < 2
 ·rw [h.low _ hl]
 ·rw [if_neg hl,if_neg (fun hh=>hl (h1.1 hh))]
  congr 1
  by_cases hc:f=5 ∧ 0 < e.to
  ·rw [if_pos hc,if_pos ⟨hc.1,h3.2 hc.2⟩]
  ·rw [if_neg hc,if_neg (fun hh=>hc ⟨hh.1,h3.1 hh.2⟩)]

theorem flatMap_mapped {α β γ:Type} (g:β → List γ) (g':α → List γ) (φ:α → β):∀ (S:List α),(∀ x ∈ S,g (φ x)=g' x) → (S.map φ).flatMap g=S.flatMap g':=by
 intro S
 induction S with
 | nil=>intro _;rfl
 | cons x S ih=>
  intro h
  rw [List.map_cons,List.flatMap_cons,List.flatMap_cons,h x (by simp),ih (fun y hy=>h y (List.mem_cons_of_mem _ hy))]

theorem Emb.saveE {M M':St} {D:Int → Prop} {φ:Int → Int} (h:Emb M M' D φ) {ps:List Int} {f:Int} {e:Edge} (he:InD D e.to):saveB M' ps f (mapE φ e)=saveB M ps f e:=by
 obtain ⟨h1,h2⟩:=h.numE 17 e.to [] he (by simp)
 have h3:numM M' (mapE φ e).to []=(numM M e.to []).map φ:=h1
 have h4:∀ y ∈ numM M e.to [],D y:=h2
 unfold saveB
 rw [h3,List.length_map,h.n,h.bytesE he h4]
 congr 2
 unfold recsB
 refine flatMap_mapped _ _ φ _ fun x hx=>?_
 have hD:=h4 x hx
 cases hl:look M.cs x with
 | none=>exact absurd hl (h.known x hD)
 | some r=>
  obtain ⟨d1,d2⟩:=h.down x r hD hl
  rw [h.here x r hD hl]
  show recB f _ (mapR φ r)=recB f _ r
  unfold recB
  show putB r.top.toNat ++ (if f=3 ∨ f=4 then putB r.bot.toNat else []) ++ edgeB f _ (mapE φ r.lo) ++ edgeB f _ (mapE φ r.hi)=_
  rw [h.bytesE d1 h4,h.bytesE d2 h4]

theorem Emb.leadsE {M M':St} {D:Int → Prop} {φ:Int → Int} (h:Emb M M' D φ) {f l:Int} {e:Edge} (he:InD D e.to) (hl:M.leads f e l=true):M'.leads f (mapE φ e) l=true:=by
 obtain ⟨hp,hr⟩:=leads_iff.1 hl
 obtain ⟨p1,p2,p3,p4,p5,p6,p7,p8⟩:=plainB_iff.1 hp
 refine leads_iff.2 ⟨plainB_iff.2 ⟨p1,p2,by rw [h.n];exact p3,by rw [h.n];exact p4,p5,by rw [h.n];exact p6,fun hh=>p7 (hh.imp (fun hh=>hh) (fun hz=>(h.zero he).1 hz)),fun h5 hz=>by rw [h.n];exact p8 h5 (fun hz0=>hz ((h.zero he).2 hz0))⟩,?_⟩
 rcases hr with hr | ⟨r,a,b,c,d⟩
 ·exact .inl ((h.low' he).2 hr)
 ·refine .inr ⟨mapR φ r,?_,b,c,d⟩
  show look M'.cs (φ e.to)=_
  rw [h.lookE he,a]
  rfl

theorem Emb.wrongE {M M':St} {D:Int → Prop} {φ:Int → Int} (h:Emb M M' D φ) {f x:Int} {r:Rec} (hx:D x) (hl:look M.cs x=some r):wrongB M' f (mapR φ r)=wrongB M f r:=by
 obtain ⟨d1,d2⟩:=h.down x r hx hl
 unfold wrongB
 by_cases h5:f=5
 ·rw [if_pos h5,if_pos h5]
  show (decide (φ r.hi.to=0) && decide (r.lo.tag=r.top + 1))=_
  have:decide (φ r.hi.to=0)=decide (r.hi.to=0):=decide_eq_decide.2 (h.zero d2)
  rw [this]
 ·rw [if_neg h5,if_neg h5]
  show (match look M'.cs (φ r.lo.to) with | none=>false | some y=>decide (y.top=r.bot + 1) && (if f=4 then decide (mapE φ r.lo=mapE φ r.hi) else decide (y.hi=mapE φ r.hi)))=_
  rw [h.lookE d1]
  have edge:∀ a b:Edge,InD D a.to → InD D b.to → decide (mapE φ a=mapE φ b)=decide (a=b):=by
   intro a b ha hb
   refine decide_eq_decide.2 ⟨fun hh=>?_,fun hh=>by rw [hh]⟩
   cases a
   cases b
   unfold mapE at hh
   simp only [Edge.mk.injEq] at hh ⊢
   exact ⟨hh.1,h.inj' ha hb hh.2⟩
  cases hk:look M.cs r.lo.to with
  | none=>rfl
  | some y=>
   have hD:D r.lo.to:=by
    rcases d1 with d1 | d1
    ·rw [look_low d1] at hk;cases hk
    ·exact d1
   obtain ⟨c1,c2⟩:=h.down _ y hD hk
   show (decide (y.top=r.bot + 1) && (if f=4 then decide (mapE φ r.lo=mapE φ r.hi) else decide (mapE φ y.hi=mapE φ r.hi)))=_
   rw [edge _ _ d1 d2,edge _ _ c2 d2]

theorem Emb.reachE {M M':St} {D:Int → Prop} {φ:Int → Int} (h:Emb M M' D φ) {a:Int} (ha:InD D a) {x:Int} (hx:Reaches M'.cs [φ a] x):∃ y,x=φ y ∧ D y ∧ Reaches M.cs [a] y:=by
 refine hx (fun x=>∃ y,x=φ y ∧ D y ∧ Reaches M.cs [a] y) (fun e he hl=>?_) (fun id r hid hl=>?_)
 ·rw [List.mem_singleton] at he
  subst he
  rw [h.lookE ha] at hl
  have hl2:look M.cs a ≠ none:=fun hh=>hl (by rw [hh];rfl)
  have hD:D a:=by
   rcases ha with ha | ha
   ·exact absurd (look_low ha) hl2
   ·exact ha
  exact ⟨a,rfl,hD,Reaches.root (by simp) hl2⟩
 ·obtain ⟨y,rfl,hD,hr⟩:=hid
  cases hk:look M.cs y with
  | none=>exact absurd hk (h.known y hD)
  | some q=>
   have:=h.here y q hD hk
   rw [hl] at this
   cases this
   obtain ⟨d1,d2⟩:=h.down y q hD hk
   obtain ⟨c1,c2⟩:=Reaches.closed M.cs [a] y q hr hk
   refine ⟨fun hh=>?_,fun hh=>?_⟩
   ·have h2:look M'.cs (φ q.lo.to) ≠ none:=hh
    rw [h.lookE d1] at h2
    have hl2:look M.cs q.lo.to ≠ none:=fun hh=>h2 (by rw [hh];rfl)
    exact ⟨q.lo.to,rfl,d1.resolve_left (fun hh=>hl2 (look_low hh)),c1 hl2⟩
   ·have h2:look M'.cs (φ q.hi.to) ≠ none:=hh
    rw [h.lookE d2] at h2
    have hl2:look M.cs q.hi.to ≠ none:=fun hh=>h2 (by rw [hh];rfl)
    exact ⟨q.hi.to,rfl,d2.resolve_left (fun hh=>hl2 (look_low hh)),c2 hl2⟩

theorem Emb.rightLE {M M':St} {D:Int → Prop} {φ:Int → Int} (h:Emb M M' D φ) {f l:Int} {e:Edge} (he:InD D e.to) (hl:rightL M f e l=true):rightL M' f (mapE φ e) l=true:=by
 obtain ⟨h1,h2⟩:=right_iff.1 hl
 refine right_iff.2 ⟨h.leadsE he h1,fun x hx=>?_⟩
 obtain ⟨y,rfl,hD,hr⟩:=h.reachE he hx
 have:=h2 y hr
 cases hk:look M.cs y with
 | none=>exact absurd hk (h.known y hD)
 | some q=>
  rw [hk] at this
  rw [h.here y q hD hk]
  exact (h.wrongE hD hk).trans this

theorem Emb.rightE {M M':St} {D:Int → Prop} {φ:Int → Int} (h:Emb M M' D φ) {f l:Int} {e:Edge} (he:InD D e.to) (hl:kRight M f e l=true):kRight M' f (mapE φ e) l=true:=by
 unfold kRight at hl ⊢
 split at hl
 ·rename_i h1
  rw [if_pos h1]
  exact h.leadsE he hl
 ·rename_i h1
  rw [if_neg h1]
  split at hl
  ·rename_i h2
   rw [if_pos h2]
   exact h.leadsE he hl
  ·rename_i h2
   rw [if_neg h2]
   split at hl
   ·rename_i h3
    rw [if_pos h3]
    exact h.rightLE he hl
   ·rename_i h3
    rw [if_neg h3]
    split at hl
    ·rename_i h4
     rw [if_pos h4]
     exact h.rightLE he hl
    ·rename_i h4
     rw [if_neg h4]
     split at hl
     ·rename_i h5
      rw [if_pos h5]
      exact h.rightLE he hl
     ·cases hl

def St.at (M:St) (r:Int):St:={ M with room:=r }

theorem len_put {M:St} (hw:M.wf) (q:Rec):((putCs M.cs M.gone q).length:Int) - (M.gone.dropLast.length:Int)=M.len + 1:=by
 unfold putCs St.len
 cases hg:M.gone.getLast? with
 | none=>
  have:M.gone=[]:=List.getLast?_eq_none_iff.1 hg
  rw [this]
  simp
 | some id=>
  have hne:M.gone ≠ []:=fun hh=>by rw [hh] at hg;cases hg
  have:0 < M.gone.length:=List.length_pos_iff.2 hne
  simp only [List.length_set,List.length_dropLast]
  omega

theorem find_at {M:St} (hw:M.wf) {q:Rec} (he:M.findErr q=0) {r:Int} (hr:(M.findSt q).len ≤ r):(M.at r).findErr q=0 ∧ (M.at r).findSt q=(M.findSt q).at r ∧ (M.at r).findId q=M.findId q:=by
 have e1:(M.at r).idOf q=M.idOf q:=rfl
 have e2:(M.at r).bad q=M.bad q:=rfl
 have e3:(M.at r).len=M.len:=rfl
 unfold St.findErr at he ⊢
 unfold St.findSt at hr ⊢
 unfold St.findId
 rw [e1]
 cases hi:M.idOf q with
 | some id=>exact ⟨rfl,rfl,rfl⟩
 | none=>
  rw [hi] at he hr
  simp only [] at he hr ⊢
  rw [e2,e3]
  by_cases hb:M.bad q=true
  ·rw [if_pos hb] at he;cases he
  ·rw [if_neg hb] at he hr ⊢
   by_cases hm:M.room ≤ M.len
   ·rw [if_pos hm] at he;cases he
   ·rw [if_neg hm] at hr ⊢
    have hlen:M.len + 1 ≤ r:=by
     rw [← len_put hw q]
     exact hr
    have hm2:¬ (M.at r).room ≤ M.len:=by show ¬ r ≤ M.len;omega
    rw [if_neg hm2,if_neg hm2,if_neg hm2,if_neg hb,if_neg hb,if_neg hm]
    exact ⟨rfl,rfl,rfl⟩

end Go.Proofs.YtfpjogpjocedaaaGreat
