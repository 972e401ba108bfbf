/-
  Arguments that came in, opened; and read again behind a call below which nothing has turned.
-/
import Derived.Test.YtpgcbmbnognieaaGreatPMSA
import Derived.ProofKit
import Derived.OpenShut
import Derived.ChangeOld
import Derived.Carry
import Derived.Lib.SmallJoins
import Derived.Deep.Slices
import Derived.Deep.Fields
namespace Go.Proofs.YtpgcbmbnognieaaGreat
set_option linter.unusedSimpArgs false
set_option linter.unusedVariables false
set_option maxHeartbeats 600000
open Go.ChangeShapes Go.WideShapes Go.ChangeAt Go.RowKit Go.Joins Go.Deep

theorem own:ownKnob Tryz.prog.godebug=none:=by kernel_rfl

theorem laidOut:laidOutB Tryz.prog=true:=by kernel_rfl

theorem wf_u8 {n:Int} (h:(Lit.int .u8 n).wf=true):0 ≤ n ∧ n ≤ 255:=by
 unfold Lit.wf at h
 simp only [Bool.and_eq_true,decide_eq_true_eq] at h
 exact h

theorem wf_u32 {n:Int} (h:(Lit.int .u32 n).wf=true):0 ≤ n ∧ n ≤ 4294967295:=by
 unfold Lit.wf at h
 simp only [Bool.and_eq_true,decide_eq_true_eq] at h
 exact h

theorem trodAll_below {H:Type} {enc:TypeId × Value → H} {P:Program} (hl:laidOutB P=true) {W W':World} (hb:Below W.heap.size W W'):∀ (ts:List TypeId) (vs:List Value) (ds:List (DataW H)) (ps:List MemPlace),
  (ts.all fun t=>P.readableRec t && decide (t < P.types.size))=true → DataW.TrodAll enc P W 0 (fun _=>true) true ts vs ds ps → DataW.TrodAll enc P W' 0 (fun b=>decide (b < W.heap.size)) true ts vs ds ps
 | [],vs,ds,ps,_,h=>by cases vs <;> cases ds <;> simp_all [DataW.TrodAll]
 | t :: ts,vs,ds,ps,ht,h=>by
  obtain ⟨v,vs',d,ds',p,q,rfl,rfl,rfl,h0,h1⟩:=trodAll_cons h
  simp only [List.all_cons,Bool.and_eq_true,decide_eq_true_eq] at ht
  refine trodAll_cons_mk (Below.trod hl ht.1.1 ht.1.2 h0 hb ?_) (trodAll_below hl hb ts vs' ds' q ht.2 h1)
  obtain ⟨m,hm⟩:=h0
  exact DataW.trod_lt m _ _ _ hm

def IsStructs {α:Type} (k:Nat) (Q:α → List Value → Prop) (w:World) (a:Option Addr) (len:Nat) (rs:List α):Prop:=
 rs.length=len ∧ ∀ i r,rs[i]?=some r → ∃ b off cs,a=some ⟨b,off,none⟩ ∧ Q r cs ∧ ∀ j,j < k → w.cell? ⟨b,off + i * k + j,none⟩=cs[j]?

theorem open_structs {H:Type} {enc:TypeId × Value → H} {P:Program} {W:World} {base:Nat} {spare:Nat → Bool} {held:Bool} {t e:TypeId} {k:Nat} {α:Type} [Inhabited α] (Q:α → List Value → Prop)
  (ht:P.underlying t=some (.slice e)) (hk:P.cellsOf e=k) (hk0:0 < k)
  (hQ:∀ n cs x,DataW.trod enc P W base spare held n e cs=some x → cs.length=k ∧ ∃ r,Q r cs)
  {a:Option Addr} {len cap:Nat} {d:DataW H} {p:List MemPlace} (h:DataW.Trod enc P W base spare held t (.slice a len cap) d p):∃ rs:List α,IsStructs k Q W a len rs:=by
 obtain ⟨fuel,hf⟩:=h
 rcases open_slice ht hf with ⟨hcs,_⟩ | ⟨x,l,c,m,n,D,Pl,hcs,_,hl,_,hm,_,hi⟩
 ·simp [Value.cells] at hcs
  obtain ⟨rfl,rfl,rfl⟩:=hcs
  exact ⟨[],rfl,fun i r hr=>by simp at hr⟩
 ·simp [Value.cells] at hcs
  obtain ⟨rfl,rfl,rfl⟩:=hcs
  have hlm:len ≤ m:=by rw [hm];split <;> omega
  have h1:∀ i,i < len → ∃ r:α,∃ b off cs,x=⟨b,off,none⟩ ∧ Q r cs ∧ ∀ j,j < k → W.cell? ⟨b,off + i * k + j,none⟩=cs[j]?:=by
   intro i hil
   obtain ⟨cs,hc,ht'⟩:=hi i (by omega)
   obtain ⟨hlen,r,hr⟩:=hQ _ _ _ ht'
   rw [hk] at hc
   obtain ⟨_,_,hat⟩:=World.cells?_some hc
   obtain ⟨b,off,spot⟩:=x
   have h0:=hat 0 hk0
   rw [List.getElem?_eq_getElem (by omega)] at h0
   have hspot:spot=none:=by
    by_cases hz:i * k=0
    ·have h00:=h0
     rw [hz] at h00
     simpa [Addr.add] using World.cell?_spot h00
    ·have h00:=hi 0 (by omega)
     obtain ⟨cs0,hc0,ht0⟩:=h00
     rw [hk] at hc0
     have h01:=(World.cells?_some hc0).2.2 0 hk0
     rw [List.getElem?_eq_getElem (by rw [(hQ _ _ _ ht0).1];exact hk0)] at h01
     simpa [Addr.add] using World.cell?_spot h01
   subst hspot
   refine ⟨r,b,off,cs,rfl,hr,fun j hj=>?_⟩
   have:=hat j hj
   rw [add_add,Addr.add] at this
   split at this
   ·rename_i he
    rw [show off + i * k + j=off by omega]
    exact this
   ·rw [show off + i * k + j=off + (i * k + j) by omega]
    exact this
  obtain ⟨f,hf'⟩:=choose_lt h1
  refine ⟨(List.range len).map f,by simp,fun i r hr=>?_⟩
  rw [List.getElem?_map,Option.map_eq_some_iff] at hr
  obtain ⟨i',hi',rfl⟩:=hr
  rw [List.getElem?_eq_some_iff] at hi'
  obtain ⟨hil,rfl⟩:=hi'
  simp only [List.length_range] at hil
  simp only [List.getElem_range]
  obtain ⟨b,off,cs,rfl,hq,hc⟩:=hf' i hil
  exact ⟨b,off,cs,rfl,hq,hc⟩

set_option maxRecDepth 100000 in
theorem edge_cells {H:Type} {enc:TypeId × Value → H} {W:World} {base:Nat} {spare:Nat → Bool} {held:Bool} {n:Nat} {cs:List Value} {x:DataW H × List MemPlace}
  (h:DataW.trod enc Tryz.prog W base spare held n 25 cs=some x):∃ e:Edge,e.ok ∧ cs=[.int .u8 e.tag,.int .u32 e.to]:=by
 obtain ⟨xs,m,_,_,hlen,hxs,hf⟩:=DataW.trod_struct Tryz.underlying25 h
 have hC:Tryz.prog.cellsOf 25=2:=by kernel_rfl
 have C8:Tryz.prog.cellsOf 5=1:=by kernel_rfl
 have C32:Tryz.prog.cellsOf 23=1:=by kernel_rfl
 rw [hC] at hlen
 have f0:=hf 0 _ rfl
 have f1:=hf 1 _ rfl
 rw [List.getElem?_eq_getElem (by rw [hxs];decide)] at f0 f1
 obtain ⟨a,ha,_,wa⟩:=DataW.trod_int Tryz.underlying5 f0
 obtain ⟨b,hb,_,wb⟩:=DataW.trod_int Tryz.underlying23 f1
 match cs,hlen with
 | [c0,c1],_=>
  simp [C8,C32] at ha hb
  exact ⟨⟨a,b⟩,⟨wf_u8 wa,wf_u32 wb⟩,by rw [ha,hb]⟩

set_option maxRecDepth 100000 in
theorem rec_cells {H:Type} {enc:TypeId × Value → H} {W:World} {base:Nat} {spare:Nat → Bool} {held:Bool} {n:Nat} {cs:List Value} {x:DataW H × List MemPlace}
  (h:DataW.trod enc Tryz.prog W base spare held n 125 cs=some x):∃ r:Rec,r.ok ∧ cs=recVals r:=by
 obtain ⟨xs,m,_,_,hlen,hxs,hf⟩:=DataW.trod_struct Tryz.underlying125 h
 have hC:Tryz.prog.cellsOf 125=7:=by kernel_rfl
 have CF:Tryz.prog.cellsOf 32=1:=by kernel_rfl
 have C8:Tryz.prog.cellsOf 5=1:=by kernel_rfl
 have CE:Tryz.prog.cellsOf 25=2:=by kernel_rfl
 rw [hC] at hlen
 have f0:=hf 0 _ rfl
 have f1:=hf 1 _ rfl
 have f2:=hf 2 _ rfl
 have f3:=hf 3 _ rfl
 have f4:=hf 4 _ rfl
 rw [List.getElem?_eq_getElem (by rw [hxs];decide)] at f0 f1 f2 f3 f4
 obtain ⟨a,ha,_,wa⟩:=DataW.trod_int Tryz.underlying32 f0
 obtain ⟨b,hb,_,wb⟩:=DataW.trod_int Tryz.underlying5 f1
 obtain ⟨c,hc,_,wc⟩:=DataW.trod_int Tryz.underlying5 f2
 obtain ⟨lo,wl,hlo⟩:=edge_cells f3
 obtain ⟨hi,wh,hhi⟩:=edge_cells f4
 match cs,hlen with
 | [c0,c1,c2,c3,c4,c5,c6],_=>
  simp [C8,CF,CE] at ha hb hc hlo hhi
  refine ⟨⟨a,b,c,lo,hi⟩,⟨wf_u8 wa,wf_u8 wb,wf_u8 wc,wl,wh⟩,?_⟩
  rw [ha,hb,hc,hlo.1,hlo.2,hhi.1,hhi.2]
  rfl

instance:Inhabited Rec:=⟨Rec.zero⟩

instance:Inhabited Edge:=⟨Edge.zero⟩

set_option maxRecDepth 100000 in
theorem open_recs {H:Type} {enc:TypeId × Value → H} {W:World} {base:Nat} {spare:Nat → Bool} {held:Bool} {a:Option Addr} {len cap:Nat} {d:DataW H} {p:List MemPlace}
  (h:DataW.Trod enc Tryz.prog W base spare held 22 (.slice a len cap) d p):∃ rs:List Rec,IsRecs W a len rs:=by
 obtain ⟨rs,h1,h2⟩:=open_structs (k:=7) (fun (r:Rec) cs=>r.ok ∧ cs=recVals r) Tryz.underlying22 (by kernel_rfl) (by decide) (fun n cs x hx=>by
  obtain ⟨r,h1,h2⟩:=rec_cells hx
  exact ⟨by rw [h2];rfl,r,h1,h2⟩) h
 refine ⟨rs,h1,fun i r hr=>?_⟩
 obtain ⟨b,off,cs,ha,⟨hok,rfl⟩,hc⟩:=h2 i r hr
 exact ⟨hok,b,off,ha,hc⟩

set_option maxRecDepth 100000 in
theorem open_edge {H:Type} {enc:TypeId × Value → H} {W:World} {base b0:Nat} {spare:Nat → Bool} {held:Bool} {r:Reach} {v:Value} {d:DataW H} {p:List MemPlace} (hv:Value.okWide Tryz.prog W r b0 25 v)
  (h:DataW.Trod enc Tryz.prog W base spare held 25 v d p):∃ e:Edge,e.ok ∧ v=.agg #[.int .u8 e.tag,.int .u32 e.to]:=by
 obtain ⟨cs,rfl,_⟩:=okWide_struct Tryz.underlying25 hv
 obtain ⟨n,hf⟩:=h
 obtain ⟨e,h1,h2⟩:=edge_cells hf
 refine ⟨e,h1,?_⟩
 obtain ⟨l⟩:=cs
 simp [Value.cells] at h2
 rw [h2]

open Go.RowKit

theorem IsRecs.keeps {w W:World} {a:Option Addr} {len:Nat} {rs:List Rec} (h:IsRecs w a len rs) (hk:Keeps w W):IsRecs W a len rs:=by
 refine ⟨h.1,fun i r hr=>?_⟩
 obtain ⟨h1,b,off,h2,h3⟩:=h.2 i r hr
 exact ⟨h1,b,off,h2,fun j hj=>by
  rw [List.getElem?_eq_getElem (show j < (recVals r).length from hj)]
  exact hk.cell ((h3 j hj).trans (List.getElem?_eq_getElem (show j < (recVals r).length from hj)))⟩

def kAct (M:St) (f l:Int) (lo hi:Edge):(Edge × Int) ⊕ Rec:=
 if f=1 then makeAct M 1 l lo hi (bRest M l lo hi) else if f=2 then makeAct M 2 l lo hi (zRest M l lo hi) else if f=3 then makeAct M 3 l lo hi (cRest M l lo hi)
 else if f=4 then makeAct M 4 l lo hi (qRest M l lo hi) else if f=5 then tAct M l lo hi else .inl (⟨0,0⟩,4)

def kE (M:St) (f:Int) (a:(Edge × Int) ⊕ Rec):Edge:=if f=5 then actE M a else actE0 M a

set_option maxRecDepth 100000 in
theorem kmake_b {F:Nat → Prop} (R:World → World → Prop) (sb:Nat) (l a b er:Int) (lo hi:Edge) (w:World) (hsb:sb < w.heap.size) (hlt:∀ k,F k → k < w.heap.size)
  (hf:∀ W,Keeps w W → Calls Tryz.prog 169 #[.pointer (some ⟨sb,0,none⟩),.int .i64 l,.agg #[.int .u8 lo.tag,.int .u32 lo.to],.agg #[.int .u8 hi.tag,.int .u32 hi.to]] W fun e w'=>e=.returned (.tuple #[.agg #[.int .u8 a,.int .u32 b],.int .u8 er]) ∧ Upd F W w' ∧ R W w') :
  Calls Tryz.prog 111 #[.pointer (some ⟨sb,0,none⟩),.int .u8 1,.int .i64 l,.agg #[.int .u8 lo.tag,.int .u32 lo.to],.agg #[.int .u8 hi.tag,.int .u32 hi.to]] w fun e w'=>e=.returned (.tuple #[.agg #[.int .u8 a,.int .u32 b],.int .u8 er]) ∧
   ∃ W W1,Keeps w W ∧ Upd F W W1 ∧ R W W1 ∧ Upd (fun k=>w.heap.size ≤ k ∧ k < W.heap.size) W1 w':=by
 have HF:=Lib.hid hf
 have nF:∀ k,w.heap.size ≤ k → ¬ F k:=fun k hk h=>by have:=hlt k h;omega
 have n2:=nF (w.heap.size + 2) (by omega)
 clear hf hlt nF
 go_enter Tryz.func111,Tryz.ntmps111
 go_wp2_with (go_at_call 169;refine (HF.out _ (by (exact kp))).mono ?_;rintro e w3 ⟨rfl,hu,hR⟩;have hs3:=hu.size;(try simp only [World.size_alloc,World.size_setCell,World.size_drew] at hs3);have v0:=hu.cell (a:=⟨w.heap.size + 2,0,none⟩) n2 (v:=.int .u8 0) (by simp [go_sem]);have v1:=hu.cell (a:=⟨w.heap.size + 2,1,none⟩) n2 (v:=.int .u32 0) (by simp [go_sem]);have vf:=fun o:Nat=>hu.frozen (a:=⟨w.heap.size + 2,o,none⟩) (by simp [go_sem]) n2 (by simp [go_sem]);have hv2:w.heap.size + 2 < w3.heap.size:=(by omega))
 all_goals refine bodyPost_ret (v:=.tuple #[.agg #[.int .u8 a,.int .u32 b],.int .u8 er]) (by simp [results,Tryz.results111,go_sem,hv2,v0,v1]) rfl ⟨rfl,_,w3,by (exact kp),hu,hR,?_⟩
 all_goals (try simp only [World.size_alloc,World.size_setCell,World.size_drew])
 all_goals (repeat (first | with_reducible exact Upd.refl _ _ | exact Upd.mono hu4 (fun k _ hk=>⟨hk.1,by (try simp only [World.size_alloc,World.size_setCell,World.size_drew]);have:=hk.2;omega⟩) | refine Upd.setCell ?_ (Or.inl (by dsimp only;omega)) _ | refine Upd.setCell ?_ (Or.inr (by dsimp only;omega)) _ | with_reducible refine Upd.drewN ?_ _ | with_reducible refine Upd.drew ?_ | with_reducible refine Upd.alloc ?_ _))

set_option maxRecDepth 100000 in
theorem kmake_z {F:Nat → Prop} (R:World → World → Prop) (sb:Nat) (l a b er:Int) (lo hi:Edge) (w:World) (hsb:sb < w.heap.size) (hlt:∀ k,F k → k < w.heap.size)
  (hf:∀ W,Keeps w W → Calls Tryz.prog 170 #[.pointer (some ⟨sb,0,none⟩),.int .i64 l,.agg #[.int .u8 lo.tag,.int .u32 lo.to],.agg #[.int .u8 hi.tag,.int .u32 hi.to]] W fun e w'=>e=.returned (.tuple #[.agg #[.int .u8 a,.int .u32 b],.int .u8 er]) ∧ Upd F W w' ∧ R W w') :
  Calls Tryz.prog 111 #[.pointer (some ⟨sb,0,none⟩),.int .u8 2,.int .i64 l,.agg #[.int .u8 lo.tag,.int .u32 lo.to],.agg #[.int .u8 hi.tag,.int .u32 hi.to]] w fun e w'=>e=.returned (.tuple #[.agg #[.int .u8 a,.int .u32 b],.int .u8 er]) ∧
   ∃ W W1,Keeps w W ∧ Upd F W W1 ∧ R W W1 ∧ Upd (fun k=>w.heap.size ≤ k ∧ k < W.heap.size) W1 w':=by
 have HF:=Lib.hid hf
 have nF:∀ k,w.heap.size ≤ k → ¬ F k:=fun k hk h=>by have:=hlt k h;omega
 have n2:=nF (w.heap.size + 2) (by omega)
 clear hf hlt nF
 go_enter Tryz.func111,Tryz.ntmps111
 go_wp2_with (go_at_call 170;refine (HF.out _ (by (exact kp))).mono ?_;rintro e w3 ⟨rfl,hu,hR⟩;have hs3:=hu.size;(try simp only [World.size_alloc,World.size_setCell,World.size_drew] at hs3);have v0:=hu.cell (a:=⟨w.heap.size + 2,0,none⟩) n2 (v:=.int .u8 0) (by simp [go_sem]);have v1:=hu.cell (a:=⟨w.heap.size + 2,1,none⟩) n2 (v:=.int .u32 0) (by simp [go_sem]);have vf:=fun o:Nat=>hu.frozen (a:=⟨w.heap.size + 2,o,none⟩) (by simp [go_sem]) n2 (by simp [go_sem]);have hv2:w.heap.size + 2 < w3.heap.size:=(by omega))
 all_goals refine bodyPost_ret (v:=.tuple #[.agg #[.int .u8 a,.int .u32 b],.int .u8 er]) (by simp [results,Tryz.results111,go_sem,hv2,v0,v1]) rfl ⟨rfl,_,w3,by (exact kp),hu,hR,?_⟩
 all_goals (try simp only [World.size_alloc,World.size_setCell,World.size_drew])
 all_goals (repeat (first | with_reducible exact Upd.refl _ _ | exact Upd.mono hu4 (fun k _ hk=>⟨hk.1,by (try simp only [World.size_alloc,World.size_setCell,World.size_drew]);have:=hk.2;omega⟩) | refine Upd.setCell ?_ (Or.inl (by dsimp only;omega)) _ | refine Upd.setCell ?_ (Or.inr (by dsimp only;omega)) _ | with_reducible refine Upd.drewN ?_ _ | with_reducible refine Upd.drew ?_ | with_reducible refine Upd.alloc ?_ _))

set_option maxRecDepth 100000 in
theorem kmake_c {F:Nat → Prop} (R:World → World → Prop) (sb:Nat) (l a b er:Int) (lo hi:Edge) (w:World) (hsb:sb < w.heap.size) (hlt:∀ k,F k → k < w.heap.size)
  (hf:∀ W,Keeps w W → Calls Tryz.prog 171 #[.pointer (some ⟨sb,0,none⟩),.int .i64 l,.agg #[.int .u8 lo.tag,.int .u32 lo.to],.agg #[.int .u8 hi.tag,.int .u32 hi.to]] W fun e w'=>e=.returned (.tuple #[.agg #[.int .u8 a,.int .u32 b],.int .u8 er]) ∧ Upd F W w' ∧ R W w') :
  Calls Tryz.prog 111 #[.pointer (some ⟨sb,0,none⟩),.int .u8 3,.int .i64 l,.agg #[.int .u8 lo.tag,.int .u32 lo.to],.agg #[.int .u8 hi.tag,.int .u32 hi.to]] w fun e w'=>e=.returned (.tuple #[.agg #[.int .u8 a,.int .u32 b],.int .u8 er]) ∧
   ∃ W W1,Keeps w W ∧ Upd F W W1 ∧ R W W1 ∧ Upd (fun k=>w.heap.size ≤ k ∧ k < W.heap.size) W1 w':=by
 have HF:=Lib.hid hf
 have nF:∀ k,w.heap.size ≤ k → ¬ F k:=fun k hk h=>by have:=hlt k h;omega
 have n2:=nF (w.heap.size + 2) (by omega)
 clear hf hlt nF
 go_enter Tryz.func111,Tryz.ntmps111
 go_wp2_with (go_at_call 171;refine (HF.out _ (by (exact kp))).mono ?_;rintro e w3 ⟨rfl,hu,hR⟩;have hs3:=hu.size;(try simp only [World.size_alloc,World.size_setCell,World.size_drew] at hs3);have v0:=hu.cell (a:=⟨w.heap.size + 2,0,none⟩) n2 (v:=.int .u8 0) (by simp [go_sem]);have v1:=hu.cell (a:=⟨w.heap.size + 2,1,none⟩) n2 (v:=.int .u32 0) (by simp [go_sem]);have vf:=fun o:Nat=>hu.frozen (a:=⟨w.heap.size + 2,o,none⟩) (by simp [go_sem]) n2 (by simp [go_sem]);have hv2:w.heap.size + 2 < w3.heap.size:=(by omega))
 all_goals refine bodyPost_ret (v:=.tuple #[.agg #[.int .u8 a,.int .u32 b],.int .u8 er]) (by simp [results,Tryz.results111,go_sem,hv2,v0,v1]) rfl ⟨rfl,_,w3,by (exact kp),hu,hR,?_⟩
 all_goals (try simp only [World.size_alloc,World.size_setCell,World.size_drew])
 all_goals (repeat (first | with_reducible exact Upd.refl _ _ | exact Upd.mono hu4 (fun k _ hk=>⟨hk.1,by (try simp only [World.size_alloc,World.size_setCell,World.size_drew]);have:=hk.2;omega⟩) | refine Upd.setCell ?_ (Or.inl (by dsimp only;omega)) _ | refine Upd.setCell ?_ (Or.inr (by dsimp only;omega)) _ | with_reducible refine Upd.drewN ?_ _ | with_reducible refine Upd.drew ?_ | with_reducible refine Upd.alloc ?_ _))

set_option maxRecDepth 100000 in
theorem kmake_q {F:Nat → Prop} (R:World → World → Prop) (sb:Nat) (l a b er:Int) (lo hi:Edge) (w:World) (hsb:sb < w.heap.size) (hlt:∀ k,F k → k < w.heap.size)
  (hf:∀ W,Keeps w W → Calls Tryz.prog 172 #[.pointer (some ⟨sb,0,none⟩),.int .i64 l,.agg #[.int .u8 lo.tag,.int .u32 lo.to],.agg #[.int .u8 hi.tag,.int .u32 hi.to]] W fun e w'=>e=.returned (.tuple #[.agg #[.int .u8 a,.int .u32 b],.int .u8 er]) ∧ Upd F W w' ∧ R W w') :
  Calls Tryz.prog 111 #[.pointer (some ⟨sb,0,none⟩),.int .u8 4,.int .i64 l,.agg #[.int .u8 lo.tag,.int .u32 lo.to],.agg #[.int .u8 hi.tag,.int .u32 hi.to]] w fun e w'=>e=.returned (.tuple #[.agg #[.int .u8 a,.int .u32 b],.int .u8 er]) ∧
   ∃ W W1,Keeps w W ∧ Upd F W W1 ∧ R W W1 ∧ Upd (fun k=>w.heap.size ≤ k ∧ k < W.heap.size) W1 w':=by
 have HF:=Lib.hid hf
 have nF:∀ k,w.heap.size ≤ k → ¬ F k:=fun k hk h=>by have:=hlt k h;omega
 have n2:=nF (w.heap.size + 2) (by omega)
 clear hf hlt nF
 go_enter Tryz.func111,Tryz.ntmps111
 go_wp2_with (go_at_call 172;refine (HF.out _ (by (exact kp))).mono ?_;rintro e w3 ⟨rfl,hu,hR⟩;have hs3:=hu.size;(try simp only [World.size_alloc,World.size_setCell,World.size_drew] at hs3);have v0:=hu.cell (a:=⟨w.heap.size + 2,0,none⟩) n2 (v:=.int .u8 0) (by simp [go_sem]);have v1:=hu.cell (a:=⟨w.heap.size + 2,1,none⟩) n2 (v:=.int .u32 0) (by simp [go_sem]);have vf:=fun o:Nat=>hu.frozen (a:=⟨w.heap.size + 2,o,none⟩) (by simp [go_sem]) n2 (by simp [go_sem]);have hv2:w.heap.size + 2 < w3.heap.size:=(by omega))
 all_goals refine bodyPost_ret (v:=.tuple #[.agg #[.int .u8 a,.int .u32 b],.int .u8 er]) (by simp [results,Tryz.results111,go_sem,hv2,v0,v1]) rfl ⟨rfl,_,w3,by (exact kp),hu,hR,?_⟩
 all_goals (try simp only [World.size_alloc,World.size_setCell,World.size_drew])
 all_goals (repeat (first | with_reducible exact Upd.refl _ _ | exact Upd.mono hu4 (fun k _ hk=>⟨hk.1,by (try simp only [World.size_alloc,World.size_setCell,World.size_drew]);have:=hk.2;omega⟩) | refine Upd.setCell ?_ (Or.inl (by dsimp only;omega)) _ | refine Upd.setCell ?_ (Or.inr (by dsimp only;omega)) _ | with_reducible refine Upd.drewN ?_ _ | with_reducible refine Upd.drew ?_ | with_reducible refine Upd.alloc ?_ _))

set_option maxRecDepth 100000 in
theorem kmake_t {F:Nat → Prop} (R:World → World → Prop) (sb:Nat) (l a b er:Int) (lo hi:Edge) (w:World) (hsb:sb < w.heap.size) (hlt:∀ k,F k → k < w.heap.size)
  (hf:∀ W,Keeps w W → Calls Tryz.prog 173 #[.pointer (some ⟨sb,0,none⟩),.int .i64 l,.agg #[.int .u8 lo.tag,.int .u32 lo.to],.agg #[.int .u8 hi.tag,.int .u32 hi.to]] W fun e w'=>e=.returned (.tuple #[.agg #[.int .u8 a,.int .u32 b],.int .u8 er]) ∧ Upd F W w' ∧ R W w') :
  Calls Tryz.prog 111 #[.pointer (some ⟨sb,0,none⟩),.int .u8 5,.int .i64 l,.agg #[.int .u8 lo.tag,.int .u32 lo.to],.agg #[.int .u8 hi.tag,.int .u32 hi.to]] w fun e w'=>e=.returned (.tuple #[.agg #[.int .u8 a,.int .u32 b],.int .u8 er]) ∧
   ∃ W W1,Keeps w W ∧ Upd F W W1 ∧ R W W1 ∧ Upd (fun k=>w.heap.size ≤ k ∧ k < W.heap.size) W1 w':=by
 have HF:=Lib.hid hf
 have nF:∀ k,w.heap.size ≤ k → ¬ F k:=fun k hk h=>by have:=hlt k h;omega
 have n2:=nF (w.heap.size + 2) (by omega)
 clear hf hlt nF
 go_enter Tryz.func111,Tryz.ntmps111
 go_wp2_with (go_at_call 173;refine (HF.out _ (by (exact kp))).mono ?_;rintro e w3 ⟨rfl,hu,hR⟩;have hs3:=hu.size;(try simp only [World.size_alloc,World.size_setCell,World.size_drew] at hs3);have v0:=hu.cell (a:=⟨w.heap.size + 2,0,none⟩) n2 (v:=.int .u8 0) (by simp [go_sem]);have v1:=hu.cell (a:=⟨w.heap.size + 2,1,none⟩) n2 (v:=.int .u32 0) (by simp [go_sem]);have vf:=fun o:Nat=>hu.frozen (a:=⟨w.heap.size + 2,o,none⟩) (by simp [go_sem]) n2 (by simp [go_sem]);have hv2:w.heap.size + 2 < w3.heap.size:=(by omega))
 all_goals refine bodyPost_ret (v:=.tuple #[.agg #[.int .u8 a,.int .u32 b],.int .u8 er]) (by simp [results,Tryz.results111,go_sem,hv2,v0,v1]) rfl ⟨rfl,_,w3,by (exact kp),hu,hR,?_⟩
 all_goals (try simp only [World.size_alloc,World.size_setCell,World.size_drew])
 all_goals (repeat (first | with_reducible exact Upd.refl _ _ | exact Upd.mono hu4 (fun k _ hk=>⟨hk.1,by (try simp only [World.size_alloc,World.size_setCell,World.size_drew]);have:=hk.2;omega⟩) | refine Upd.setCell ?_ (Or.inl (by dsimp only;omega)) _ | refine Upd.setCell ?_ (Or.inr (by dsimp only;omega)) _ | with_reducible refine Upd.drewN ?_ _ | with_reducible refine Upd.drew ?_ | with_reducible refine Upd.alloc ?_ _))

set_option maxRecDepth 100000 in
theorem kmake_no (sb:Nat) (f l:Int) (lo hi:Edge) (w:World) (hsb:sb < w.heap.size) (h1:f ≠ 1) (h2:f ≠ 2) (h3:f ≠ 3) (h4:f ≠ 4) (h5:f ≠ 5) :
  Calls Tryz.prog 111 #[.pointer (some ⟨sb,0,none⟩),.int .u8 f,.int .i64 l,.agg #[.int .u8 lo.tag,.int .u32 lo.to],.agg #[.int .u8 hi.tag,.int .u32 hi.to]] w fun e w'=>e=.returned (.tuple #[.agg #[.int .u8 0,.int .u32 0],.int .u8 4]) ∧ Keeps w w':=by
 have g1:(f == 1)=false:=by simp [h1]
 have g2:(f == 2)=false:=by simp [h2]
 have g3:(f == 3)=false:=by simp [h3]
 have g4:(f == 4)=false:=by simp [h4]
 have g5:(f == 5)=false:=by simp [h5]
 clear h1 h2 h3 h4 h5
 go_enter Tryz.func111,Tryz.ntmps111
 go_wp2
 all_goals refine bodyPost_ret (v:=.tuple #[.agg #[.int .u8 0,.int .u32 0],.int .u8 4]) (by simp [results,Tryz.results111,go_sem]) rfl ⟨rfl,by (exact kp)⟩

theorem canon_make {F:Nat → Prop} {w:World} {sb:Nat} {M:St} (h:StoreRep F w sb M) (f l:Int) (lo hi:Edge) (hlo:lo.ok) (hhi:hi.ok) :
  Calls Tryz.prog 111 #[.pointer (some ⟨sb,0,none⟩),.int .u8 f,.int .i64 l,.agg #[.int .u8 lo.tag,.int .u32 lo.to],.agg #[.int .u8 hi.tag,.int .u32 hi.to]] w fun r w'=>
   r=.returned (.tuple #[.agg #[.int .u8 (kE M f (kAct M f l lo hi)).tag,.int .u32 (kE M f (kAct M f l lo hi)).to],.int .u8 (actErr M (kAct M f l lo hi))]) ∧ Upd F w w' ∧ StoreRep (Grow F w w') w' sb (actSt M (kAct M f l lo hi)):=by
 by_cases f1:f=1
 ·subst f1
  have e1:kAct M 1 l lo hi=makeAct M 1 l lo hi (bRest M l lo hi):=rfl
  have e2:kE M 1 (kAct M 1 l lo hi)=actE0 M (makeAct M 1 l lo hi (bRest M l lo hi)):=by rw [e1];rfl
  rw [e2,e1]
  refine (kmake_b (fun W W1=>StoreRep (Grow F W W1) W1 sb (actSt M (makeAct M 1 l lo hi (bRest M l lo hi)))) sb l _ _ _ lo hi w h.pos h.lt (fun W hW=>bdd_make (h.keeps hW) l lo hi hlo hhi)).mono ?_
  rintro e w' ⟨rfl,W,W1,q1,q2,q3,q4⟩
  exact ⟨rfl,q3.after h.lt q1 q2 q4⟩
 by_cases f2:f=2
 ·subst f2
  have e1:kAct M 2 l lo hi=makeAct M 2 l lo hi (zRest M l lo hi):=rfl
  have e2:kE M 2 (kAct M 2 l lo hi)=actE0 M (makeAct M 2 l lo hi (zRest M l lo hi)):=by rw [e1];rfl
  rw [e2,e1]
  refine (kmake_z (fun W W1=>StoreRep (Grow F W W1) W1 sb (actSt M (makeAct M 2 l lo hi (zRest M l lo hi)))) sb l _ _ _ lo hi w h.pos h.lt (fun W hW=>zdd_make (h.keeps hW) l lo hi hlo hhi)).mono ?_
  rintro e w' ⟨rfl,W,W1,q1,q2,q3,q4⟩
  exact ⟨rfl,q3.after h.lt q1 q2 q4⟩
 by_cases f3:f=3
 ·subst f3
  have e1:kAct M 3 l lo hi=makeAct M 3 l lo hi (cRest M l lo hi):=rfl
  have e2:kE M 3 (kAct M 3 l lo hi)=actE0 M (makeAct M 3 l lo hi (cRest M l lo hi)):=by rw [e1];rfl
  rw [e2,e1]
  refine (kmake_c (fun W W1=>StoreRep (Grow F W W1) W1 sb (actSt M (makeAct M 3 l lo hi (cRest M l lo hi)))) sb l _ _ _ lo hi w h.pos h.lt (fun W hW=>cbdd_make (h.keeps hW) l lo hi hlo hhi)).mono ?_
  rintro e w' ⟨rfl,W,W1,q1,q2,q3,q4⟩
  exact ⟨rfl,q3.after h.lt q1 q2 q4⟩
 by_cases f4:f=4
 ·subst f4
  have e1:kAct M 4 l lo hi=makeAct M 4 l lo hi (qRest M l lo hi):=rfl
  have e2:kE M 4 (kAct M 4 l lo hi)=actE0 M (makeAct M 4 l lo hi (qRest M l lo hi)):=by rw [e1];rfl
  rw [e2,e1]
  refine (kmake_q (fun W W1=>StoreRep (Grow F W W1) W1 sb (actSt M (makeAct M 4 l lo hi (qRest M l lo hi)))) sb l _ _ _ lo hi w h.pos h.lt (fun W hW=>czdd_make (h.keeps hW) l lo hi hlo hhi)).mono ?_
  rintro e w' ⟨rfl,W,W1,q1,q2,q3,q4⟩
  exact ⟨rfl,q3.after h.lt q1 q2 q4⟩
 by_cases f5:f=5
 ·subst f5
  have e1:kAct M 5 l lo hi=tAct M l lo hi:=rfl
  have e2:kE M 5 (kAct M 5 l lo hi)=actE M (tAct M l lo hi):=by rw [e1];rfl
  rw [e2,e1]
  refine (kmake_t (fun W W1=>StoreRep (Grow F W W1) W1 sb (actSt M (tAct M l lo hi))) sb l _ _ _ lo hi w h.pos h.lt (fun W hW=>tbdd_make (h.keeps hW) l lo hi hlo hhi)).mono ?_
  rintro e w' ⟨rfl,W,W1,q1,q2,q3,q4⟩
  exact ⟨rfl,q3.after h.lt q1 q2 q4⟩
 have e1:kAct M f l lo hi=.inl (⟨0,0⟩,4):=by unfold kAct;rw [if_neg f1,if_neg f2,if_neg f3,if_neg f4,if_neg f5]
 have e2:kE M f (kAct M f l lo hi)=⟨0,0⟩:=by rw [e1];unfold kE;split <;> rfl
 rw [e2,e1]
 exact (kmake_no sb f l lo hi w h.pos f1 f2 f3 f4 f5).mono fun r w' hr=>⟨hr.1,h.stay hr.2⟩

def oneE (f n:Int):Edge:=if f=5 then ⟨n,1⟩ else ⟨0,1⟩

set_option maxRecDepth 100000 in
theorem one_calls (f n:Int) (w:World) (hf:isFormB f=true) (hn0:0 ≤ n) (hn:n ≤ 16):Calls Tryz.prog 207 #[.int .u8 f,.int .i64 n] w fun e w'=>e=.returned (.agg #[.int .u8 (oneE f n).tag,.int .u32 (oneE f n).to]) ∧ Keeps w w':=by
 have h2:mayB n=true:=by simp [mayB,hn0,hn]
 by_cases h5:f=5
 ·subst h5
  go_enter Tryz.func207,Tryz.ntmps207
  go_wp2_with (first | (go_at_call 153;refine (isForm_calls _ _).mono ?_;rintro e w' ⟨rfl,rfl⟩) | (go_at_call 191;refine (may_calls _ _).mono ?_;rintro e w' ⟨rfl,rfl⟩) | fail)
  all_goals refine bodyPost_ret (v:=.agg #[.int .u8 n,.int .u32 1]) (by simp [results,Tryz.results207,go_sem]) rfl ⟨rfl,by (exact kp)⟩
 ·have h6:(f == 5)=false:=by simp [h5]
  have e:oneE f n=⟨0,1⟩:=if_neg h5
  rw [e]
  go_enter Tryz.func207,Tryz.ntmps207
  go_wp2_with (first | (go_at_call 153;refine (isForm_calls _ _).mono ?_;rintro e w' ⟨rfl,rfl⟩) | (go_at_call 191;refine (may_calls _ _).mono ?_;rintro e w' ⟨rfl,rfl⟩) | fail)
  all_goals refine bodyPost_ret (v:=.agg #[.int .u8 0,.int .u32 1]) (by simp [results,Tryz.results207,go_sem]) rfl ⟨rfl,by (exact kp)⟩

end Go.Proofs.YtpgcbmbnognieaaGreat
