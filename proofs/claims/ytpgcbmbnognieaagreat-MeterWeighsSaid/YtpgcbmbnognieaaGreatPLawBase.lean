/-
  Arguments that came in, opened; and read again behind a call below which nothing has turned.
-/
import Derived.Test.YtpgcbmbnognieaaGreatPWordsR
import Derived.ProofKit
import Derived.OpenShut
import Derived.ChangeOld
import Derived.Carry
import Derived.Lib.SmallJoins
import Derived.Deep.Slices
import Derived.Deep.Fields
namespace Go.Proofs.YtpgcbmbnognieaaGreat
set_option linter.unusedSimpArgs false
set_option linter.unusedVariables false
set_option maxHeartbeats 600000
open Go.ChangeShapes Go.WideShapes Go.ChangeAt Go.RowKit Go.Joins Go.Deep

theorem own:ownKnob Tryz.prog.godebug=none:=by kernel_rfl

theorem laidOut:laidOutB Tryz.prog=true:=by kernel_rfl

theorem wf_u8 {n:Int} (h:(Lit.int .u8 n).wf=true):0 ≤ n ∧ n ≤ 255:=by
 unfold Lit.wf at h
 simp only [Bool.and_eq_true,decide_eq_true_eq] at h
 exact h

theorem wf_u32 {n:Int} (h:(Lit.int .u32 n).wf=true):0 ≤ n ∧ n ≤ 4294967295:=by
 unfold Lit.wf at h
 simp only [Bool.and_eq_true,decide_eq_true_eq] at h
 exact h

theorem trodAll_below {H:Type} {enc:TypeId × Value → H} {P:Program} (hl:laidOutB P=true) {W W':World} (hb:Below W.heap.size W W'):∀ (ts:List TypeId) (vs:List Value) (ds:List (DataW H)) (ps:List MemPlace),
  (ts.all fun t=>P.readableRec t && decide (t < P.types.size))=true → DataW.TrodAll enc P W 0 (fun _=>true) true ts vs ds ps → DataW.TrodAll enc P W' 0 (fun b=>decide (b < W.heap.size)) true ts vs ds ps
 | [],vs,ds,ps,_,h=>by cases vs <;> cases ds <;> simp_all [DataW.TrodAll]
 | t :: ts,vs,ds,ps,ht,h=>by
  obtain ⟨v,vs',d,ds',p,q,rfl,rfl,rfl,h0,h1⟩:=trodAll_cons h
  simp only [List.all_cons,Bool.and_eq_true,decide_eq_true_eq] at ht
  refine trodAll_cons_mk (Below.trod hl ht.1.1 ht.1.2 h0 hb ?_) (trodAll_below hl hb ts vs' ds' q ht.2 h1)
  obtain ⟨m,hm⟩:=h0
  exact DataW.trod_lt m _ _ _ hm

def IsStructs {α:Type} (k:Nat) (Q:α → List Value → Prop) (w:World) (a:Option Addr) (len:Nat) (rs:List α):Prop:=
 rs.length=len ∧ ∀ i r,rs[i]?=some r → ∃ b off cs,a=some ⟨b,off,none⟩ ∧ Q r cs ∧ ∀ j,j < k → w.cell? ⟨b,off + i * k + j,none⟩=cs[j]?

theorem open_structs {H:Type} {enc:TypeId × Value → H} {P:Program} {W:World} {base:Nat} {spare:Nat → Bool} {held:Bool} {t e:TypeId} {k:Nat} {α:Type} [Inhabited α] (Q:α → List Value → Prop)
  (ht:P.underlying t=some (.slice e)) (hk:P.cellsOf e=k) (hk0:0 < k)
  (hQ:∀ n cs x,DataW.trod enc P W base spare held n e cs=some x → cs.length=k ∧ ∃ r,Q r cs)
  {a:Option Addr} {len cap:Nat} {d:DataW H} {p:List MemPlace} (h:DataW.Trod enc P W base spare held t (.slice a len cap) d p):∃ rs:List α,IsStructs k Q W a len rs:=by
 obtain ⟨fuel,hf⟩:=h
 rcases open_slice ht hf with ⟨hcs,_⟩ | ⟨x,l,c,m,n,D,Pl,hcs,_,hl,_,hm,_,hi⟩
 ·simp [Value.cells] at hcs
  obtain ⟨rfl,rfl,rfl⟩:=hcs
  exact ⟨[],rfl,fun i r hr=>by simp at hr⟩
 ·simp [Value.cells] at hcs
  obtain ⟨rfl,rfl,rfl⟩:=hcs
  have hlm:len ≤ m:=by rw [hm];split <;> omega
  have h1:∀ i,i < len → ∃ r:α,∃ b off cs,x=⟨b,off,none⟩ ∧ Q r cs ∧ ∀ j,j < k → W.cell? ⟨b,off + i * k + j,none⟩=cs[j]?:=by
   intro i hil
   obtain ⟨cs,hc,ht'⟩:=hi i (by omega)
   obtain ⟨hlen,r,hr⟩:=hQ _ _ _ ht'
   rw [hk] at hc
   obtain ⟨_,_,hat⟩:=World.cells?_some hc
   obtain ⟨b,off,spot⟩:=x
   have h0:=hat 0 hk0
   rw [List.getElem?_eq_getElem (by omega)] at h0
   have hspot:spot=none:=by
    by_cases hz:i * k=0
    ·have h00:=h0
     rw [hz] at h00
     simpa [Addr.add] using World.cell?_spot h00
    ·have h00:=hi 0 (by omega)
     obtain ⟨cs0,hc0,ht0⟩:=h00
     rw [hk] at hc0
     have h01:=(World.cells?_some hc0).2.2 0 hk0
     rw [List.getElem?_eq_getElem (by rw [(hQ _ _ _ ht0).1];exact hk0)] at h01
     simpa [Addr.add] using World.cell?_spot h01
   subst hspot
   refine ⟨r,b,off,cs,rfl,hr,fun j hj=>?_⟩
   have:=hat j hj
   rw [add_add,Addr.add] at this
   split at this
   ·rename_i he
    rw [show off + i * k + j=off by omega]
    exact this
   ·rw [show off + i * k + j=off + (i * k + j) by omega]
    exact this
  obtain ⟨f,hf'⟩:=choose_lt h1
  refine ⟨(List.range len).map f,by simp,fun i r hr=>?_⟩
  rw [List.getElem?_map,Option.map_eq_some_iff] at hr
  obtain ⟨i',hi',rfl⟩:=hr
  rw [List.getElem?_eq_some_iff] at hi'
  obtain ⟨hil,rfl⟩:=hi'
  simp only [List.length_range] at hil
  simp only [List.getElem_range]
  obtain ⟨b,off,cs,rfl,hq,hc⟩:=hf' i hil
  exact ⟨b,off,cs,rfl,hq,hc⟩

set_option maxRecDepth 100000 in
theorem edge_cells {H:Type} {enc:TypeId × Value → H} {W:World} {base:Nat} {spare:Nat → Bool} {held:Bool} {n:Nat} {cs:List Value} {x:DataW H × List MemPlace}
  (h:DataW.trod enc Tryz.prog W base spare held n 25 cs=some x):∃ e:Edge,e.ok ∧ cs=[.int .u8 e.tag,.int .u32 e.to]:=by
 obtain ⟨xs,m,_,_,hlen,hxs,hf⟩:=DataW.trod_struct Tryz.underlying25 h
 have hC:Tryz.prog.cellsOf 25=2:=by kernel_rfl
 have C8:Tryz.prog.cellsOf 5=1:=by kernel_rfl
 have C32:Tryz.prog.cellsOf 23=1:=by kernel_rfl
 rw [hC] at hlen
 have f0:=hf 0 _ rfl
 have f1:=hf 1 _ rfl
 rw [List.getElem?_eq_getElem (by rw [hxs];decide)] at f0 f1
 obtain ⟨a,ha,_,wa⟩:=DataW.trod_int Tryz.underlying5 f0
 obtain ⟨b,hb,_,wb⟩:=DataW.trod_int Tryz.underlying23 f1
 match cs,hlen with
 | [c0,c1],_=>
  simp [C8,C32] at ha hb
  exact ⟨⟨a,b⟩,⟨wf_u8 wa,wf_u32 wb⟩,by rw [ha,hb]⟩

set_option maxRecDepth 100000 in
theorem rec_cells {H:Type} {enc:TypeId × Value → H} {W:World} {base:Nat} {spare:Nat → Bool} {held:Bool} {n:Nat} {cs:List Value} {x:DataW H × List MemPlace}
  (h:DataW.trod enc Tryz.prog W base spare held n 125 cs=some x):∃ r:Rec,r.ok ∧ cs=recVals r:=by
 obtain ⟨xs,m,_,_,hlen,hxs,hf⟩:=DataW.trod_struct Tryz.underlying125 h
 have hC:Tryz.prog.cellsOf 125=7:=by kernel_rfl
 have CF:Tryz.prog.cellsOf 32=1:=by kernel_rfl
 have C8:Tryz.prog.cellsOf 5=1:=by kernel_rfl
 have CE:Tryz.prog.cellsOf 25=2:=by kernel_rfl
 rw [hC] at hlen
 have f0:=hf 0 _ rfl
 have f1:=hf 1 _ rfl
 have f2:=hf 2 _ rfl
 have f3:=hf 3 _ rfl
 have f4:=hf 4 _ rfl
 rw [List.getElem?_eq_getElem (by rw [hxs];decide)] at f0 f1 f2 f3 f4
 obtain ⟨a,ha,_,wa⟩:=DataW.trod_int Tryz.underlying32 f0
 obtain ⟨b,hb,_,wb⟩:=DataW.trod_int Tryz.underlying5 f1
 obtain ⟨c,hc,_,wc⟩:=DataW.trod_int Tryz.underlying5 f2
 obtain ⟨lo,wl,hlo⟩:=edge_cells f3
 obtain ⟨hi,wh,hhi⟩:=edge_cells f4
 match cs,hlen with
 | [c0,c1,c2,c3,c4,c5,c6],_=>
  simp [C8,CF,CE] at ha hb hc hlo hhi
  refine ⟨⟨a,b,c,lo,hi⟩,⟨wf_u8 wa,wf_u8 wb,wf_u8 wc,wl,wh⟩,?_⟩
  rw [ha,hb,hc,hlo.1,hlo.2,hhi.1,hhi.2]
  rfl

instance:Inhabited Rec:=⟨Rec.zero⟩

instance:Inhabited Edge:=⟨Edge.zero⟩

set_option maxRecDepth 100000 in
theorem open_recs {H:Type} {enc:TypeId × Value → H} {W:World} {base:Nat} {spare:Nat → Bool} {held:Bool} {a:Option Addr} {len cap:Nat} {d:DataW H} {p:List MemPlace}
  (h:DataW.Trod enc Tryz.prog W base spare held 22 (.slice a len cap) d p):∃ rs:List Rec,IsRecs W a len rs:=by
 obtain ⟨rs,h1,h2⟩:=open_structs (k:=7) (fun (r:Rec) cs=>r.ok ∧ cs=recVals r) Tryz.underlying22 (by kernel_rfl) (by decide) (fun n cs x hx=>by
  obtain ⟨r,h1,h2⟩:=rec_cells hx
  exact ⟨by rw [h2];rfl,r,h1,h2⟩) h
 refine ⟨rs,h1,fun i r hr=>?_⟩
 obtain ⟨b,off,cs,ha,⟨hok,rfl⟩,hc⟩:=h2 i r hr
 exact ⟨hok,b,off,ha,hc⟩

set_option maxRecDepth 100000 in
theorem open_edge {H:Type} {enc:TypeId × Value → H} {W:World} {base b0:Nat} {spare:Nat → Bool} {held:Bool} {r:Reach} {v:Value} {d:DataW H} {p:List MemPlace} (hv:Value.okWide Tryz.prog W r b0 25 v)
  (h:DataW.Trod enc Tryz.prog W base spare held 25 v d p):∃ e:Edge,e.ok ∧ v=.agg #[.int .u8 e.tag,.int .u32 e.to]:=by
 obtain ⟨cs,rfl,_⟩:=okWide_struct Tryz.underlying25 hv
 obtain ⟨n,hf⟩:=h
 obtain ⟨e,h1,h2⟩:=edge_cells hf
 refine ⟨e,h1,?_⟩
 obtain ⟨l⟩:=cs
 simp [Value.cells] at h2
 rw [h2]

open Go.RowKit

theorem IsRecs.keeps {w W:World} {a:Option Addr} {len:Nat} {rs:List Rec} (h:IsRecs w a len rs) (hk:Keeps w W):IsRecs W a len rs:=by
 refine ⟨h.1,fun i r hr=>?_⟩
 obtain ⟨h1,b,off,h2,h3⟩:=h.2 i r hr
 exact ⟨h1,b,off,h2,fun j hj=>by
  rw [List.getElem?_eq_getElem (show j < (recVals r).length from hj)]
  exact hk.cell ((h3 j hj).trans (List.getElem?_eq_getElem (show j < (recVals r).length from hj)))⟩

end Go.Proofs.YtpgcbmbnognieaaGreat
