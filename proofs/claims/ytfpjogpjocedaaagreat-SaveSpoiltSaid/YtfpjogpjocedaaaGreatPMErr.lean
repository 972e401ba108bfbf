/-
  Arguments that came in, opened; and read again behind a call below which nothing has turned.
-/
import Derived.Test.YtfpjogpjocedaaaGreatPWireS
import Derived.ProofKit
import Derived.OpenShut
import Derived.ChangeOld
import Derived.Carry
import Derived.Lib.SmallJoins
import Derived.Deep.Slices
import Derived.Deep.Fields
namespace Go.Proofs.YtfpjogpjocedaaaGreat
set_option linter.unusedSimpArgs false
set_option linter.unusedVariables false
set_option maxHeartbeats 600000
open Go.ChangeShapes Go.WideShapes Go.ChangeAt Go.RowKit Go.Joins Go.Deep

theorem own:ownKnob Tryz.prog.godebug=none:=by kernel_rfl

theorem laidOut:laidOutB Tryz.prog=true:=by kernel_rfl

theorem wf_u8 {n:Int} (h:(Lit.int .u8 n).wf=true):0 ≤ n ∧ n ≤ 255:=by
 unfold Lit.wf at h
 simp only [Bool.and_eq_true,decide_eq_true_eq] at h
 exact h

theorem trodAll_below {H:Type} {enc:TypeId × Value → H} {P:Program} (hl:laidOutB P=true) {W W':World} (hb:Below W.heap.size W W'):∀ (ts:List TypeId) (vs:List Value) (ds:List (DataW H)) (ps:List MemPlace),
  (ts.all fun t=>P.readableRec t && decide (t < P.types.size))=true → DataW.TrodAll enc P W 0 (fun _=>true) true ts vs ds ps → DataW.TrodAll enc P W' 0 (fun b=>decide (b < W.heap.size)) true ts vs ds ps
 | [],vs,ds,ps,_,h=>by cases vs <;> cases ds <;> simp_all [DataW.TrodAll]
 | t :: ts,vs,ds,ps,ht,h=>by
  obtain ⟨v,vs',d,ds',p,q,rfl,rfl,rfl,h0,h1⟩:=trodAll_cons h
  simp only [List.all_cons,Bool.and_eq_true,decide_eq_true_eq] at ht
  refine trodAll_cons_mk (Below.trod hl ht.1.1 ht.1.2 h0 hb ?_) (trodAll_below hl hb ts vs' ds' q ht.2 h1)
  obtain ⟨m,hm⟩:=h0
  exact DataW.trod_lt m _ _ _ hm

def IsStructs {α:Type} (k:Nat) (Q:α → List Value → Prop) (w:World) (a:Option Addr) (len:Nat) (rs:List α):Prop:=
 rs.length=len ∧ ∀ i r,rs[i]?=some r → ∃ b off cs,a=some ⟨b,off,none⟩ ∧ Q r cs ∧ ∀ j,j < k → w.cell? ⟨b,off + i * k + j,none⟩=cs[j]?

theorem open_structs {H:Type} {enc:TypeId × Value → H} {P:Program} {W:World} {base:Nat} {spare:Nat → Bool} {held:Bool} {t e:TypeId} {k:Nat} {α:Type} [Inhabited α] (Q:α → List Value → Prop)
  (ht:P.underlying t=some (.slice e)) (hk:P.cellsOf e=k) (hk0:0 < k)
  (hQ:∀ n cs x,DataW.trod enc P W base spare held n e cs=some x → cs.length=k ∧ ∃ r,Q r cs)
  {a:Option Addr} {len cap:Nat} {d:DataW H} {p:List MemPlace} (h:DataW.Trod enc P W base spare held t (.slice a len cap) d p):∃ rs:List α,IsStructs k Q W a len rs:=by
 obtain ⟨fuel,hf⟩:=h
 rcases open_slice ht hf with ⟨hcs,_⟩ | ⟨x,l,c,m,n,D,Pl,hcs,_,hl,_,hm,_,hi⟩
 ·simp [Value.cells] at hcs
  obtain ⟨rfl,rfl,rfl⟩:=hcs
  exact ⟨[],rfl,fun i r hr=>by simp at hr⟩
 ·simp [Value.cells] at hcs
  obtain ⟨rfl,rfl,rfl⟩:=hcs
  have hlm:len ≤ m:=by rw [hm];split <;> omega
  have h1:∀ i,i < len → ∃ r:α,∃ b off cs,x=⟨b,off,none⟩ ∧ Q r cs ∧ ∀ j,j < k → W.cell? ⟨b,off + i * k + j,none⟩=cs[j]?:=by
   intro i hil
   obtain ⟨cs,hc,ht'⟩:=hi i (by omega)
   obtain ⟨hlen,r,hr⟩:=hQ _ _ _ ht'
   rw [hk] at hc
   obtain ⟨_,_,hat⟩:=World.cells?_some hc
   obtain ⟨b,off,spot⟩:=x
   have h0:=hat 0 hk0
   rw [List.getElem?_eq_getElem (by omega)] at h0
   have hspot:spot=none:=by
    by_cases hz:i * k=0
    ·have h00:=h0
     rw [hz] at h00
     simpa [Addr.add] using World.cell?_spot h00
    ·have h00:=hi 0 (by omega)
     obtain ⟨cs0,hc0,ht0⟩:=h00
     rw [hk] at hc0
     have h01:=(World.cells?_some hc0).2.2 0 hk0
     rw [List.getElem?_eq_getElem (by rw [(hQ _ _ _ ht0).1];exact hk0)] at h01
     simpa [Addr.add] using World.cell?_spot h01
   subst hspot
   refine ⟨r,b,off,cs,rfl,hr,fun j hj=>?_⟩
   have:=hat j hj
   rw [add_add,Addr.add] at this
   split at this
   ·rename_i he
    rw [show off + i * k + j=off by omega]
    exact this
   ·rw [show off + i * k + j=off + (i * k + j) by omega]
    exact this
  obtain ⟨f,hf'⟩:=choose_lt h1
  refine ⟨(List.range len).map f,by simp,fun i r hr=>?_⟩
  rw [List.getElem?_map,Option.map_eq_some_iff] at hr
  obtain ⟨i',hi',rfl⟩:=hr
  rw [List.getElem?_eq_some_iff] at hi'
  obtain ⟨hil,rfl⟩:=hi'
  simp only [List.length_range] at hil
  simp only [List.getElem_range]
  obtain ⟨b,off,cs,rfl,hq,hc⟩:=hf' i hil
  exact ⟨b,off,cs,rfl,hq,hc⟩

instance:Inhabited Rec:=⟨Rec.zero⟩

instance:Inhabited Edge:=⟨Edge.zero⟩

open Go.RowKit

theorem findErr_range (M:St) (r:Rec):0 ≤ M.findErr r ∧ M.findErr r ≤ 255:=by
 unfold St.findErr
 split
 ·decide
 ·split
  ·decide
  ·split <;> decide

theorem actErr_range (M:St) (l:Int) (lo hi:Edge):0 ≤ actErr M (tAct M l lo hi) ∧ actErr M (tAct M l lo hi) ≤ 255:=by
 unfold tAct
 split
 ·simp [actErr]
 ·split
  ·simp [actErr]
  ·split
   ·simp [actErr]
   ·split
    ·simp [actErr]
    ·exact findErr_range M _

theorem makeErr (M:St) (f l:Int) (lo hi:Edge) (rest:(Edge × Int) ⊕ Rec) (h:0 ≤ actErr M rest ∧ actErr M rest ≤ 255):0 ≤ actErr M (makeAct M f l lo hi rest) ∧ actErr M (makeAct M f l lo hi rest) ≤ 255:=by
 unfold makeAct
 split
 ·simp [actErr]
 ·split
  ·simp [actErr]
  ·exact h

theorem inrErr (M:St) (r:Rec):0 ≤ actErr M (.inr r) ∧ actErr M (.inr r) ≤ 255:=findErr_range M r

theorem bRest_err (M:St) (l:Int) (lo hi:Edge):0 ≤ actErr M (bRest M l lo hi) ∧ actErr M (bRest M l lo hi) ≤ 255:=by
 unfold bRest
 split
 ·simp [actErr]
 ·exact inrErr M _

theorem zRest_err (M:St) (l:Int) (lo hi:Edge):0 ≤ actErr M (zRest M l lo hi) ∧ actErr M (zRest M l lo hi) ≤ 255:=by
 unfold zRest
 split
 ·simp [actErr]
 ·exact inrErr M _

theorem cRest_err (M:St) (l:Int) (lo hi:Edge):0 ≤ actErr M (cRest M l lo hi) ∧ actErr M (cRest M l lo hi) ≤ 255:=by
 unfold cRest
 split
 ·simp [actErr]
 ·split
  ·exact inrErr M _
  ·split
   ·split <;> exact inrErr M _
   ·exact inrErr M _

theorem qRest_err (M:St) (l:Int) (lo hi:Edge):0 ≤ actErr M (qRest M l lo hi) ∧ actErr M (qRest M l lo hi) ≤ 255:=by
 unfold qRest
 split
 ·simp [actErr]
 ·split
  ·exact inrErr M _
  ·split
   ·split <;> exact inrErr M _
   ·exact inrErr M _

def IsU8s (w:World) (a:Option Addr) (len:Nat) (bs:List Int):Prop:=
 bs.length=len ∧ ∀ i x,bs[i]?=some x → 0 ≤ x ∧ x ≤ 255 ∧ ∃ b off,a=some ⟨b,off,none⟩ ∧ w.cell? ⟨b,off + i,none⟩=some (.int .u8 x)

theorem open_u8s {H:Type} {enc:TypeId × Value → H} {W:World} {base:Nat} {spare:Nat → Bool} {held:Bool} {a:Option Addr} {len cap:Nat} {d:DataW H} {p:List MemPlace}
  (h:DataW.Trod enc Tryz.prog W base spare held 24 (.slice a len cap) d p):∃ bs:List Int,IsU8s W a len bs:=by
 obtain ⟨rs,h1,h2⟩:=open_structs (k:=1) (fun (r:Int) cs=>(0 ≤ r ∧ r ≤ 255) ∧ cs=[.int .u8 r]) Tryz.underlying24 (by kernel_rfl) (by decide) (fun n cs x hx=>by
  obtain ⟨r,hr,_,wr⟩:=DataW.trod_int Tryz.underlying5 hx
  exact ⟨by rw [hr];rfl,r,wf_u8 wr,hr⟩) h
 refine ⟨rs,h1,fun i r hr=>?_⟩
 obtain ⟨b,off,cs,ha,⟨hok,rfl⟩,hc⟩:=h2 i r hr
 have c0:=hc 0 (by decide)
 rw [Nat.add_zero,Nat.mul_one] at c0
 exact ⟨hok.1,hok.2,b,off,ha,c0⟩

end Go.Proofs.YtfpjogpjocedaaaGreat
