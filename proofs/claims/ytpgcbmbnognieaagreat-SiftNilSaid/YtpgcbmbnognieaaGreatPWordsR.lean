/-
  Arguments that came in, opened; and read again behind a call below which nothing has turned.
-/
import Derived.Test.YtpgcbmbnognieaaGreatPMakeBZ
import Derived.Test.YtpgcbmbnognieaaGreatPMakeC
import Derived.Test.YtpgcbmbnognieaaGreatPMakeQ
import Derived.Test.YtpgcbmbnognieaaGreatPViewT
import Derived.ProofKit
import Derived.OpenShut
import Derived.ChangeOld
import Derived.Carry
import Derived.Lib.SmallJoins
import Derived.Deep.Slices
import Derived.Deep.Fields
namespace Go.Proofs.YtpgcbmbnognieaaGreat
set_option maxRecDepth 1000000
set_option maxHeartbeats 8000000
set_option linter.unusedSimpArgs false
set_option linter.unusedVariables false
open Go.ChangeShapes Go.WideShapes Go.ChangeAt Go.RowKit Go.Joins Go.Deep

theorem own:ownKnob Tryz.prog.godebug=none:=by kernel_rfl

theorem laidOut:laidOutB Tryz.prog=true:=by kernel_rfl

theorem wf_u8 {n:Int}(h:(Lit.int .u8 n).wf=true):0≤n∧n≤255:=by
 unfold Lit.wf at h
 simp only [Bool.and_eq_true,decide_eq_true_eq] at h
 exact h

theorem wf_u32 {n:Int}(h:(Lit.int .u32 n).wf=true):0≤n∧n≤4294967295:=by
 unfold Lit.wf at h
 simp only [Bool.and_eq_true,decide_eq_true_eq] at h
 exact h

theorem trodAll_below {H:Type}{enc:TypeId×Value→H}{P:Program}(hl:laidOutB P=true){W W':World}(hb:Below W.heap.size W W'):∀ (ts:List TypeId) (vs:List Value) (ds:List (DataW H)) (ps:List MemPlace),
  (ts.all fun t=>P.readableRec t&&decide (t<P.types.size))=true→DataW.TrodAll enc P W 0 (fun _=>true) true ts vs ds ps→DataW.TrodAll enc P W' 0 (fun b=>decide (b<W.heap.size)) true ts vs ds ps
 | [],vs,ds,ps,_,h=>by cases vs<;>cases ds<;>simp_all [DataW.TrodAll]
 | t::ts,vs,ds,ps,ht,h=>by
  obtain⟨v,vs',d,ds',p,q,rfl,rfl,rfl,h0,h1⟩:=trodAll_cons h
  simp only [List.all_cons,Bool.and_eq_true,decide_eq_true_eq] at ht
  refine trodAll_cons_mk (Below.trod hl ht.1.1 ht.1.2 h0 hb ?_) (trodAll_below hl hb ts vs' ds' q ht.2 h1)
  obtain⟨m,hm⟩:=h0
  exact DataW.trod_lt m _ _ _ hm

def IsStructs {α:Type}(k:Nat)(Q:α→List Value→Prop)(w:World)(a:Option Addr)(len:Nat)(rs:List α):Prop:=
 rs.length=len∧∀ i r,rs[i]?=some r→∃ b off cs,a=some ⟨b,off,none⟩∧Q r cs∧∀ j,j<k→w.cell? ⟨b,off+i*k+j,none⟩=cs[j]?

theorem open_structs {H:Type}{enc:TypeId×Value→H}{P:Program}{W:World}{base:Nat}{spare:Nat→Bool}{held:Bool}{t e:TypeId}{k:Nat}{α:Type}[Inhabited α](Q:α→List Value→Prop)
  (ht:P.underlying t=some (.slice e)) (hk:P.cellsOf e=k) (hk0:0<k)
  (hQ:∀ n cs x,DataW.trod enc P W base spare held n e cs=some x→cs.length=k∧∃ r,Q r cs)
  {a:Option Addr} {len cap:Nat} {d:DataW H} {p:List MemPlace} (h:DataW.Trod enc P W base spare held t (.slice a len cap) d p):∃ rs:List α,IsStructs k Q W a len rs:=by
 obtain⟨fuel,hf⟩:=h
 rcases open_slice ht hf with⟨hcs,_⟩|⟨x,l,c,m,n,D,Pl,hcs,_,hl,_,hm,_,hi⟩
 ·simp [Value.cells] at hcs
  obtain⟨rfl,rfl,rfl⟩:=hcs
  exact⟨[],rfl,fun i r hr=>by simp at hr⟩
 ·simp [Value.cells] at hcs
  obtain⟨rfl,rfl,rfl⟩:=hcs
  have hlm:len≤m:=by rw [hm];split<;>omega
  have h1:∀ i,i<len→∃ r:α,∃ b off cs,x=⟨b,off,none⟩∧Q r cs∧∀ j,j<k→W.cell? ⟨b,off+i*k+j,none⟩=cs[j]?:=by
   intro i hil
   obtain⟨cs,hc,ht'⟩:=hi i (by omega)
   obtain⟨hlen,r,hr⟩:=hQ _ _ _ ht'
   rw [hk] at hc
   obtain⟨_,_,hat⟩:=World.cells?_some hc
   obtain⟨b,off,spot⟩:=x
   have h0:=hat 0 hk0
   rw [List.getElem?_eq_getElem (by omega)] at h0
   have hspot:spot=none:=by
    by_cases hz:i*k=0
    ·have h00:=h0
     rw [hz] at h00
     simpa [Addr.add] using World.cell?_spot h00
    ·have h00:=hi 0 (by omega)
     obtain⟨cs0,hc0,ht0⟩:=h00
     rw [hk] at hc0
     have h01:=(World.cells?_some hc0).2.2 0 hk0
     rw [List.getElem?_eq_getElem (by rw [(hQ _ _ _ ht0).1];exact hk0)] at h01
     simpa [Addr.add] using World.cell?_spot h01
   subst hspot
   refine⟨r,b,off,cs,rfl,hr,fun j hj=>?_⟩
   have:=hat j hj
   rw [add_add,Addr.add] at this
   split at this
   ·rename_i he
    rw [show off+i*k+j=off by omega]
    exact this
   ·rw [show off+i*k+j=off+(i*k+j) by omega]
    exact this
  obtain⟨f,hf'⟩:=choose_lt h1
  refine⟨(List.range len).map f,by simp,fun i r hr=>?_⟩
  rw [List.getElem?_map,Option.map_eq_some_iff] at hr
  obtain⟨i',hi',rfl⟩:=hr
  rw [List.getElem?_eq_some_iff] at hi'
  obtain⟨hil,rfl⟩:=hi'
  simp only [List.length_range] at hil
  simp only [List.getElem_range]
  obtain⟨b,off,cs,rfl,hq,hc⟩:=hf' i hil
  exact⟨b,off,cs,rfl,hq,hc⟩

theorem edge_cells {H:Type}{enc:TypeId×Value→H}{W:World}{base:Nat}{spare:Nat→Bool}{held:Bool}{n:Nat}{cs:List Value}{x:DataW H×List MemPlace}
  (h:DataW.trod enc Tryz.prog W base spare held n 25 cs=some x):∃ e:Edge,e.ok∧cs=[.int .u8 e.tag,.int .u32 e.to]:=by
 obtain⟨xs,m,_,_,hlen,hxs,hf⟩:=DataW.trod_struct Tryz.underlying25 h
 have hC:Tryz.prog.cellsOf 25=2:=by kernel_rfl
 have C8:Tryz.prog.cellsOf 5=1:=by kernel_rfl
 have C32:Tryz.prog.cellsOf 23=1:=by kernel_rfl
 rw [hC] at hlen
 have f0:=hf 0 _ rfl
 have f1:=hf 1 _ rfl
 rw [List.getElem?_eq_getElem (by rw [hxs];decide)] at f0 f1
 obtain⟨a,ha,_,wa⟩:=DataW.trod_int Tryz.underlying5 f0
 obtain⟨b,hb,_,wb⟩:=DataW.trod_int Tryz.underlying23 f1
 match cs,hlen with
 | [c0,c1],_=>
  simp [C8,C32] at ha hb
  exact⟨⟨a,b⟩,⟨wf_u8 wa,wf_u32 wb⟩,by rw [ha,hb]⟩

instance:Inhabited Rec:=⟨Rec.zero⟩

instance:Inhabited Edge:=⟨Edge.zero⟩

open Go.RowKit

theorem bdd_make {F:Nat→Prop}{w:World}{sb:Nat}{M:St}(h:StoreRep F w sb M)(l:Int)(lo hi:Edge)(hlo:lo.ok)(hhi:hi.ok) :
  Calls Tryz.prog 169 #[.pointer (some ⟨sb,0,none⟩),.int .i64 l,.agg #[.int .u8 lo.tag,.int .u32 lo.to],.agg #[.int .u8 hi.tag,.int .u32 hi.to]] w fun r w'=>
   r=.returned (.tuple #[.agg #[.int .u8 (actE0 M (makeAct M 1 l lo hi (bRest M l lo hi))).tag,.int .u32 (actE0 M (makeAct M 1 l lo hi (bRest M l lo hi))).to],.int .u8 (actErr M (makeAct M 1 l lo hi (bRest M l lo hi)))])∧Upd F w w'∧StoreRep (Grow F w w') w' sb (actSt M (makeAct M 1 l lo hi (bRest M l lo hi))):=by
 have hn:=h.wf.n16
 have hv:=fun(W:World) (hW:Keeps w W)=>store_vars (h.keeps hW)
 have hllo:=fun(W:World) (hW:Keeps w W)=>store_leads (h.keeps hW) 1 lo (l+1) hlo
 have hlhi:=fun(W:World) (hW:Keeps w W)=>store_leads (h.keeps hW) 1 hi (l+1) hhi
 by_cases c1:l<0∨M.n≤l
 ·have ev:makeAct M 1 l lo hi (bRest M l lo hi)=.inl (⟨0,0⟩,3):=if_pos c1
  rw [ev]
  by_cases c0:l<0
  ·exact(bmake_neg sb l M.n lo hi w hn h.pos hv c0).mono fun r w' hr=>⟨hr.1,h.stay hr.2⟩
  ·exact(bmake_big sb l M.n lo hi w hn h.pos hv (by omega) (by omega)).mono fun r w' hr=>⟨hr.1,h.stay hr.2⟩
 ·have h0:0≤l:=by omega
  have h1:l<M.n:=by omega
  by_cases c2:M.leads 1 lo (l+1)=false∨M.leads 1 hi (l+1)=false
  ·have ev:makeAct M 1 l lo hi (bRest M l lo hi)=.inl (⟨0,0⟩,1):=by unfold makeAct;rw [if_neg c1,if_pos c2]
   rw [ev]
   rcases bool_cases (M.leads 1 lo (l+1)) with b1|b1
   ·rw [b1] at hllo
    exact(bmake_lo sb l M.n lo hi w hn h.pos hv h0 h1 hllo).mono fun r w' hr=>⟨hr.1,h.stay hr.2⟩
   ·have b2:M.leads 1 hi (l+1)=false:=by rcases c2 with c2|c2;rw [c2] at b1;cases b1;exact c2
    rw [b1] at hllo
    rw [b2] at hlhi
    exact(bmake_hi sb l M.n lo hi w hn h.pos hv h0 h1 hllo hlhi).mono fun r w' hr=>⟨hr.1,h.stay hr.2⟩
  ·have b1:M.leads 1 lo (l+1)=true:=by rcases bool_cases (M.leads 1 lo (l+1)) with b|b;exact(c2 (.inl b)).elim;exact b
   have b2:M.leads 1 hi (l+1)=true:=by rcases bool_cases (M.leads 1 hi (l+1)) with b|b;exact(c2 (.inr b)).elim;exact b
   have ev:makeAct M 1 l lo hi (bRest M l lo hi)=bRest M l lo hi:=by unfold makeAct;rw [if_neg c1,if_neg c2]
   rw [ev]
   rw [b1] at hllo
   rw [b2] at hlhi
   by_cases s0:lo=hi
   ·have e1:bRest M l lo hi=.inl (lo,0):=if_pos s0
    rw [e1]
    exact(bmake_same sb l M.n lo hi w hn h.pos hv h0 h1 hllo hlhi s0).mono fun r w' hr=>⟨hr.1,h.stay hr.2⟩
   have hr:(⟨1,l,l,lo,hi⟩:Rec).ok:=rec_ok (by decide) h0 (by omega) ⟨h0,by omega⟩ hlo hhi
   have e1:bRest M l lo hi=.inr ⟨1,l,l,lo,hi⟩:=if_neg s0
   rw [e1]
   have hf:=fun(W:World) (hW:Keeps w W)=>bdd_found0 (h.keeps hW) ⟨1,l,l,lo,hi⟩ hr
   refine(bmake_found (fun W W1=>StoreRep (Grow F W W1) W1 sb (M.findSt ⟨1,l,l,lo,hi⟩)) sb l M.n lo hi _ _ _ w hn h.pos hv h0 h1 hllo hlhi s0 h.lt hf).mono ?_
   rintro e w' ⟨rfl,W,W1,q1,q2,q3,q4⟩
   exact⟨rfl,q3.after h.lt q1 q2 q4⟩

theorem zdd_make {F:Nat→Prop}{w:World}{sb:Nat}{M:St}(h:StoreRep F w sb M)(l:Int)(lo hi:Edge)(hlo:lo.ok)(hhi:hi.ok) :
  Calls Tryz.prog 170 #[.pointer (some ⟨sb,0,none⟩),.int .i64 l,.agg #[.int .u8 lo.tag,.int .u32 lo.to],.agg #[.int .u8 hi.tag,.int .u32 hi.to]] w fun r w'=>
   r=.returned (.tuple #[.agg #[.int .u8 (actE0 M (makeAct M 2 l lo hi (zRest M l lo hi))).tag,.int .u32 (actE0 M (makeAct M 2 l lo hi (zRest M l lo hi))).to],.int .u8 (actErr M (makeAct M 2 l lo hi (zRest M l lo hi)))])∧Upd F w w'∧StoreRep (Grow F w w') w' sb (actSt M (makeAct M 2 l lo hi (zRest M l lo hi))):=by
 have hn:=h.wf.n16
 have hv:=fun(W:World) (hW:Keeps w W)=>store_vars (h.keeps hW)
 have hllo:=fun(W:World) (hW:Keeps w W)=>store_leads (h.keeps hW) 2 lo (l+1) hlo
 have hlhi:=fun(W:World) (hW:Keeps w W)=>store_leads (h.keeps hW) 2 hi (l+1) hhi
 by_cases c1:l<0∨M.n≤l
 ·have ev:makeAct M 2 l lo hi (zRest M l lo hi)=.inl (⟨0,0⟩,3):=if_pos c1
  rw [ev]
  by_cases c0:l<0
  ·exact(zmake_neg sb l M.n lo hi w hn h.pos hv c0).mono fun r w' hr=>⟨hr.1,h.stay hr.2⟩
  ·exact(zmake_big sb l M.n lo hi w hn h.pos hv (by omega) (by omega)).mono fun r w' hr=>⟨hr.1,h.stay hr.2⟩
 ·have h0:0≤l:=by omega
  have h1:l<M.n:=by omega
  by_cases c2:M.leads 2 lo (l+1)=false∨M.leads 2 hi (l+1)=false
  ·have ev:makeAct M 2 l lo hi (zRest M l lo hi)=.inl (⟨0,0⟩,1):=by unfold makeAct;rw [if_neg c1,if_pos c2]
   rw [ev]
   rcases bool_cases (M.leads 2 lo (l+1)) with b1|b1
   ·rw [b1] at hllo
    exact(zmake_lo sb l M.n lo hi w hn h.pos hv h0 h1 hllo).mono fun r w' hr=>⟨hr.1,h.stay hr.2⟩
   ·have b2:M.leads 2 hi (l+1)=false:=by rcases c2 with c2|c2;rw [c2] at b1;cases b1;exact c2
    rw [b1] at hllo
    rw [b2] at hlhi
    exact(zmake_hi sb l M.n lo hi w hn h.pos hv h0 h1 hllo hlhi).mono fun r w' hr=>⟨hr.1,h.stay hr.2⟩
  ·have b1:M.leads 2 lo (l+1)=true:=by rcases bool_cases (M.leads 2 lo (l+1)) with b|b;exact(c2 (.inl b)).elim;exact b
   have b2:M.leads 2 hi (l+1)=true:=by rcases bool_cases (M.leads 2 hi (l+1)) with b|b;exact(c2 (.inr b)).elim;exact b
   have ev:makeAct M 2 l lo hi (zRest M l lo hi)=zRest M l lo hi:=by unfold makeAct;rw [if_neg c1,if_neg c2]
   rw [ev]
   rw [b1] at hllo
   rw [b2] at hlhi
   by_cases s0:hi.to=0
   ·have e1:zRest M l lo hi=.inl (lo,0):=if_pos s0
    rw [e1]
    obtain⟨th,ta⟩:=hi
    dsimp only at s0
    subst s0
    exact(zmake_zero sb l M.n lo th w hn h.pos hv h0 h1 hllo hlhi).mono fun r w' hr=>⟨hr.1,h.stay hr.2⟩
   have hr:(⟨2,l,l,lo,hi⟩:Rec).ok:=rec_ok (by decide) h0 (by omega) ⟨h0,by omega⟩ hlo hhi
   have e1:zRest M l lo hi=.inr ⟨2,l,l,lo,hi⟩:=if_neg s0
   rw [e1]
   have hf:=fun(W:World) (hW:Keeps w W)=>zdd_found0 (h.keeps hW) ⟨2,l,l,lo,hi⟩ hr
   refine(zmake_found (fun W W1=>StoreRep (Grow F W W1) W1 sb (M.findSt ⟨2,l,l,lo,hi⟩)) sb l M.n lo hi _ _ _ w hn h.pos hv h0 h1 hllo hlhi s0 h.lt hf).mono ?_
   rintro e w' ⟨rfl,W,W1,q1,q2,q3,q4⟩
   exact⟨rfl,q3.after h.lt q1 q2 q4⟩

theorem cbdd_make {F:Nat→Prop}{w:World}{sb:Nat}{M:St}(h:StoreRep F w sb M)(l:Int)(lo hi:Edge)(hlo:lo.ok)(hhi:hi.ok) :
  Calls Tryz.prog 171 #[.pointer (some ⟨sb,0,none⟩),.int .i64 l,.agg #[.int .u8 lo.tag,.int .u32 lo.to],.agg #[.int .u8 hi.tag,.int .u32 hi.to]] w fun r w'=>
   r=.returned (.tuple #[.agg #[.int .u8 (actE0 M (makeAct M 3 l lo hi (cRest M l lo hi))).tag,.int .u32 (actE0 M (makeAct M 3 l lo hi (cRest M l lo hi))).to],.int .u8 (actErr M (makeAct M 3 l lo hi (cRest M l lo hi)))])∧Upd F w w'∧StoreRep (Grow F w w') w' sb (actSt M (makeAct M 3 l lo hi (cRest M l lo hi))):=by
 have hn:=h.wf.n16
 have hv:=fun(W:World) (hW:Keeps w W)=>store_vars (h.keeps hW)
 have hllo:=fun(W:World) (hW:Keeps w W)=>store_leads (h.keeps hW) 3 lo (l+1) hlo
 have hlhi:=fun(W:World) (hW:Keeps w W)=>store_leads (h.keeps hW) 3 hi (l+1) hhi
 by_cases c1:l<0∨M.n≤l
 ·have ev:makeAct M 3 l lo hi (cRest M l lo hi)=.inl (⟨0,0⟩,3):=if_pos c1
  rw [ev]
  by_cases c0:l<0
  ·exact(cmake_neg sb l M.n lo hi w hn h.pos hv c0).mono fun r w' hr=>⟨hr.1,h.stay hr.2⟩
  ·exact(cmake_big sb l M.n lo hi w hn h.pos hv (by omega) (by omega)).mono fun r w' hr=>⟨hr.1,h.stay hr.2⟩
 ·have h0:0≤l:=by omega
  have h1:l<M.n:=by omega
  by_cases c2:M.leads 3 lo (l+1)=false∨M.leads 3 hi (l+1)=false
  ·have ev:makeAct M 3 l lo hi (cRest M l lo hi)=.inl (⟨0,0⟩,1):=by unfold makeAct;rw [if_neg c1,if_pos c2]
   rw [ev]
   rcases bool_cases (M.leads 3 lo (l+1)) with b1|b1
   ·rw [b1] at hllo
    exact(cmake_lo sb l M.n lo hi w hn h.pos hv h0 h1 hllo).mono fun r w' hr=>⟨hr.1,h.stay hr.2⟩
   ·have b2:M.leads 3 hi (l+1)=false:=by rcases c2 with c2|c2;rw [c2] at b1;cases b1;exact c2
    rw [b1] at hllo
    rw [b2] at hlhi
    exact(cmake_hi sb l M.n lo hi w hn h.pos hv h0 h1 hllo hlhi).mono fun r w' hr=>⟨hr.1,h.stay hr.2⟩
  ·have b1:M.leads 3 lo (l+1)=true:=by rcases bool_cases (M.leads 3 lo (l+1)) with b|b;exact(c2 (.inl b)).elim;exact b
   have b2:M.leads 3 hi (l+1)=true:=by rcases bool_cases (M.leads 3 hi (l+1)) with b|b;exact(c2 (.inr b)).elim;exact b
   have ev:makeAct M 3 l lo hi (cRest M l lo hi)=cRest M l lo hi:=by unfold makeAct;rw [if_neg c1,if_neg c2]
   rw [ev]
   rw [b1] at hllo
   rw [b2] at hlhi
   by_cases s0:lo=hi
   ·have e1:cRest M l lo hi=.inl (lo,0):=if_pos s0
    rw [e1]
    exact(cmake_same sb l M.n lo hi w hn h.pos hv h0 h1 hllo hlhi s0).mono fun r w' hr=>⟨hr.1,h.stay hr.2⟩
   have hr:(⟨3,l,l,lo,hi⟩:Rec).ok:=rec_ok (by decide) h0 (by omega) ⟨h0,by omega⟩ hlo hhi
   have hg:=fun(W:World) (hW:Keeps w W)=>store_get (h.keeps hW) lo.to hlo.2.2
   cases hk:look M.cs lo.to with
   | none=>
    rw [hk] at hg
    have e1:cRest M l lo hi=.inr ⟨3,l,l,lo,hi⟩:=by unfold cRest;rw [if_neg s0,hk]
    rw [e1]
    have hf:=fun(W:World) (hW:Keeps w W)=>cbdd_found0 (h.keeps hW) ⟨3,l,l,lo,hi⟩ hr
    refine(cmake_none (fun W W1=>StoreRep (Grow F W W1) W1 sb (M.findSt ⟨3,l,l,lo,hi⟩)) sb l M.n lo hi Rec.zero _ _ _ w hn h.pos hv h0 h1 hllo hlhi s0 hg h.lt hf).mono ?_
    rintro e w' ⟨rfl,W,W1,q1,q2,q3,q4⟩
    exact⟨rfl,q3.after h.lt q1 q2 q4⟩
   | some r=>
    have hok:=h.fit hk
    rw [hk] at hg
    by_cases c3:r.top=l+1
    ·by_cases c4:r.hi=hi
     ·have e1:cRest M l lo hi=.inr ⟨3,l,r.bot,r.lo,hi⟩:=by unfold cRest;rw [if_neg s0,hk];show(if r.top=l+1 then _ else _)=_;rw [if_pos c3,if_pos c4]
      rw [e1]
      clear hr
      have hr:(⟨3,l,r.bot,r.lo,hi⟩:Rec).ok:=rec_ok (by decide) h0 (by omega) hok.bot hok.lo hhi
      obtain⟨rf,rt,rb,rlo,rhi⟩:=r
      dsimp only at c3 c4 hr ⊢
      subst c4
      subst c3
      have hf:=fun(W:World) (hW:Keeps w W)=>cbdd_found0 (h.keeps hW) ⟨3,l,rb,rlo,rhi⟩ hr
      refine(cmake_chain (fun W W1=>StoreRep (Grow F W W1) W1 sb (M.findSt ⟨3,l,rb,rlo,rhi⟩)) sb l M.n lo rhi ⟨rf,l+1,rb,rlo,rhi⟩ _ _ _ w hn h.pos hv h0 h1 hllo hlhi s0 hg h.lt hf).mono ?_
      rintro e w' ⟨rfl,W,W1,q1,q2,q3,q4⟩
      exact⟨rfl,q3.after h.lt q1 q2 q4⟩
     ·have e1:cRest M l lo hi=.inr ⟨3,l,l,lo,hi⟩:=by unfold cRest;rw [if_neg s0,hk];show(if r.top=l+1 then _ else _)=_;rw [if_pos c3,if_neg c4]
      rw [e1]
      obtain⟨rf,rt,rb,rlo,rhi⟩:=r
      dsimp only at c3 c4
      subst c3
      have hf:=fun(W:World) (hW:Keeps w W)=>cbdd_found0 (h.keeps hW) ⟨3,l,l,lo,hi⟩ hr
      refine(cmake_hino (fun W W1=>StoreRep (Grow F W W1) W1 sb (M.findSt ⟨3,l,l,lo,hi⟩)) sb l M.n lo hi ⟨rf,l+1,rb,rlo,rhi⟩ _ _ _ w hn h.pos hv h0 h1 hllo hlhi s0 c4 hg h.lt hf).mono ?_
      rintro e w' ⟨rfl,W,W1,q1,q2,q3,q4⟩
      exact⟨rfl,q3.after h.lt q1 q2 q4⟩
    ·have e1:cRest M l lo hi=.inr ⟨3,l,l,lo,hi⟩:=by unfold cRest;rw [if_neg s0,hk];show(if r.top=l+1 then _ else _)=_;rw [if_neg c3]
     rw [e1]
     have hf:=fun(W:World) (hW:Keeps w W)=>cbdd_found0 (h.keeps hW) ⟨3,l,l,lo,hi⟩ hr
     refine(cmake_top (fun W W1=>StoreRep (Grow F W W1) W1 sb (M.findSt ⟨3,l,l,lo,hi⟩)) sb l M.n lo hi r _ _ _ w hn h.pos hv h0 h1 hllo hlhi s0 c3 hok.top.1 hok.top.2 hg h.lt hf).mono ?_
     rintro e w' ⟨rfl,W,W1,q1,q2,q3,q4⟩
     exact⟨rfl,q3.after h.lt q1 q2 q4⟩

theorem czdd_make {F:Nat→Prop}{w:World}{sb:Nat}{M:St}(h:StoreRep F w sb M)(l:Int)(lo hi:Edge)(hlo:lo.ok)(hhi:hi.ok) :
  Calls Tryz.prog 172 #[.pointer (some ⟨sb,0,none⟩),.int .i64 l,.agg #[.int .u8 lo.tag,.int .u32 lo.to],.agg #[.int .u8 hi.tag,.int .u32 hi.to]] w fun r w'=>
   r=.returned (.tuple #[.agg #[.int .u8 (actE0 M (makeAct M 4 l lo hi (qRest M l lo hi))).tag,.int .u32 (actE0 M (makeAct M 4 l lo hi (qRest M l lo hi))).to],.int .u8 (actErr M (makeAct M 4 l lo hi (qRest M l lo hi)))])∧Upd F w w'∧StoreRep (Grow F w w') w' sb (actSt M (makeAct M 4 l lo hi (qRest M l lo hi))):=by
 have hn:=h.wf.n16
 have hv:=fun(W:World) (hW:Keeps w W)=>store_vars (h.keeps hW)
 have hllo:=fun(W:World) (hW:Keeps w W)=>store_leads (h.keeps hW) 4 lo (l+1) hlo
 have hlhi:=fun(W:World) (hW:Keeps w W)=>store_leads (h.keeps hW) 4 hi (l+1) hhi
 by_cases c1:l<0∨M.n≤l
 ·have ev:makeAct M 4 l lo hi (qRest M l lo hi)=.inl (⟨0,0⟩,3):=if_pos c1
  rw [ev]
  by_cases c0:l<0
  ·exact(qmake_neg sb l M.n lo hi w hn h.pos hv c0).mono fun r w' hr=>⟨hr.1,h.stay hr.2⟩
  ·exact(qmake_big sb l M.n lo hi w hn h.pos hv (by omega) (by omega)).mono fun r w' hr=>⟨hr.1,h.stay hr.2⟩
 ·have h0:0≤l:=by omega
  have h1:l<M.n:=by omega
  by_cases c2:M.leads 4 lo (l+1)=false∨M.leads 4 hi (l+1)=false
  ·have ev:makeAct M 4 l lo hi (qRest M l lo hi)=.inl (⟨0,0⟩,1):=by unfold makeAct;rw [if_neg c1,if_pos c2]
   rw [ev]
   rcases bool_cases (M.leads 4 lo (l+1)) with b1|b1
   ·rw [b1] at hllo
    exact(qmake_lo sb l M.n lo hi w hn h.pos hv h0 h1 hllo).mono fun r w' hr=>⟨hr.1,h.stay hr.2⟩
   ·have b2:M.leads 4 hi (l+1)=false:=by rcases c2 with c2|c2;rw [c2] at b1;cases b1;exact c2
    rw [b1] at hllo
    rw [b2] at hlhi
    exact(qmake_hi sb l M.n lo hi w hn h.pos hv h0 h1 hllo hlhi).mono fun r w' hr=>⟨hr.1,h.stay hr.2⟩
  ·have b1:M.leads 4 lo (l+1)=true:=by rcases bool_cases (M.leads 4 lo (l+1)) with b|b;exact(c2 (.inl b)).elim;exact b
   have b2:M.leads 4 hi (l+1)=true:=by rcases bool_cases (M.leads 4 hi (l+1)) with b|b;exact(c2 (.inr b)).elim;exact b
   have ev:makeAct M 4 l lo hi (qRest M l lo hi)=qRest M l lo hi:=by unfold makeAct;rw [if_neg c1,if_neg c2]
   rw [ev]
   rw [b1] at hllo
   rw [b2] at hlhi
   by_cases s0:hi.to=0
   ·have e1:qRest M l lo hi=.inl (lo,0):=if_pos s0
    rw [e1]
    obtain⟨th,ta⟩:=hi
    dsimp only at s0
    subst s0
    exact(qmake_zero sb l M.n lo th w hn h.pos hv h0 h1 hllo hlhi).mono fun r w' hr=>⟨hr.1,h.stay hr.2⟩
   have hr:(⟨4,l,l,lo,hi⟩:Rec).ok:=rec_ok (by decide) h0 (by omega) ⟨h0,by omega⟩ hlo hhi
   have hg:=fun(W:World) (hW:Keeps w W)=>store_get (h.keeps hW) lo.to hlo.2.2
   cases hk:look M.cs lo.to with
   | none=>
    rw [hk] at hg
    have e1:qRest M l lo hi=.inr ⟨4,l,l,lo,hi⟩:=by unfold qRest;rw [if_neg s0,hk]
    rw [e1]
    have hf:=fun(W:World) (hW:Keeps w W)=>czdd_found0 (h.keeps hW) ⟨4,l,l,lo,hi⟩ hr
    refine(qmake_none (fun W W1=>StoreRep (Grow F W W1) W1 sb (M.findSt ⟨4,l,l,lo,hi⟩)) sb l M.n lo hi Rec.zero _ _ _ w hn h.pos hv h0 h1 hllo hlhi s0 hg h.lt hf).mono ?_
    rintro e w' ⟨rfl,W,W1,q1,q2,q3,q4⟩
    exact⟨rfl,q3.after h.lt q1 q2 q4⟩
   | some r=>
    have hok:=h.fit hk
    rw [hk] at hg
    by_cases c4:lo=hi
    ·by_cases c3:r.top=l+1
     ·have e1:qRest M l lo hi=.inr ⟨4,l,r.bot,r.lo,r.hi⟩:=by unfold qRest;rw [if_neg s0,hk];show(if lo=hi then _ else _)=_;rw [if_pos c4,if_pos c3]
      rw [e1]
      clear hr
      have hr:(⟨4,l,r.bot,r.lo,r.hi⟩:Rec).ok:=rec_ok (by decide) h0 (by omega) hok.bot hok.lo hok.hi
      obtain⟨rf,rt,rb,rlo,rhi⟩:=r
      dsimp only at c3 c4 hr ⊢
      subst c4
      subst c3
      have hf:=fun(W:World) (hW:Keeps w W)=>czdd_found0 (h.keeps hW) ⟨4,l,rb,rlo,rhi⟩ hr
      refine(qmake_chain (fun W W1=>StoreRep (Grow F W W1) W1 sb (M.findSt ⟨4,l,rb,rlo,rhi⟩)) sb l M.n lo ⟨rf,l+1,rb,rlo,rhi⟩ _ _ _ w hn h.pos hv h0 h1 hllo hlhi s0 hg h.lt hf).mono ?_
      rintro e w' ⟨rfl,W,W1,q1,q2,q3,q4⟩
      exact⟨rfl,q3.after h.lt q1 q2 q4⟩
     ·have e1:qRest M l lo hi=.inr ⟨4,l,l,lo,hi⟩:=by unfold qRest;rw [if_neg s0,hk];show(if lo=hi then _ else _)=_;rw [if_pos c4,if_neg c3]
      rw [e1]
      subst c4
      have hf:=fun(W:World) (hW:Keeps w W)=>czdd_found0 (h.keeps hW) ⟨4,l,l,lo,lo⟩ hr
      refine(qmake_top (fun W W1=>StoreRep (Grow F W W1) W1 sb (M.findSt ⟨4,l,l,lo,lo⟩)) sb l M.n lo r _ _ _ w hn h.pos hv h0 h1 hllo hlhi s0 c3 hok.top.1 hok.top.2 hg h.lt hf).mono ?_
      rintro e w' ⟨rfl,W,W1,q1,q2,q3,q4⟩
      exact⟨rfl,q3.after h.lt q1 q2 q4⟩
    ·have e1:qRest M l lo hi=.inr ⟨4,l,l,lo,hi⟩:=by unfold qRest;rw [if_neg s0,hk];show(if lo=hi then _ else _)=_;rw [if_neg c4]
     rw [e1]
     have hf:=fun(W:World) (hW:Keeps w W)=>czdd_found0 (h.keeps hW) ⟨4,l,l,lo,hi⟩ hr
     refine(qmake_lono (fun W W1=>StoreRep (Grow F W W1) W1 sb (M.findSt ⟨4,l,l,lo,hi⟩)) sb l M.n lo hi r _ _ _ w hn h.pos hv h0 h1 hllo hlhi s0 c4 hok.top.1 hok.top.2 hg h.lt hf).mono ?_
     rintro e w' ⟨rfl,W,W1,q1,q2,q3,q4⟩
     exact⟨rfl,q3.after h.lt q1 q2 q4⟩

def kAct (M:St)(f l:Int)(lo hi:Edge):(Edge×Int) ⊕ Rec:=
 if f=1 then makeAct M 1 l lo hi (bRest M l lo hi) else if f=2 then makeAct M 2 l lo hi (zRest M l lo hi) else if f=3 then makeAct M 3 l lo hi (cRest M l lo hi)
 else if f=4 then makeAct M 4 l lo hi (qRest M l lo hi) else if f=5 then tAct M l lo hi else .inl (⟨0,0⟩,4)

def kE (M:St)(f:Int)(a:(Edge×Int) ⊕ Rec):Edge:=if f=5 then actE M a else actE0 M a

theorem kmake_b {F:Nat→Prop}(R:World→World→Prop)(sb:Nat)(l a b er:Int)(lo hi:Edge)(w:World)(hsb:sb<w.heap.size)(hlt:∀ k,F k→k<w.heap.size)
  (hf:∀ W,Keeps w W→Calls Tryz.prog 169 #[.pointer (some ⟨sb,0,none⟩),.int .i64 l,.agg #[.int .u8 lo.tag,.int .u32 lo.to],.agg #[.int .u8 hi.tag,.int .u32 hi.to]] W fun e w'=>e=.returned (.tuple #[.agg #[.int .u8 a,.int .u32 b],.int .u8 er])∧Upd F W w'∧R W w') :
  Calls Tryz.prog 111 #[.pointer (some ⟨sb,0,none⟩),.int .u8 1,.int .i64 l,.agg #[.int .u8 lo.tag,.int .u32 lo.to],.agg #[.int .u8 hi.tag,.int .u32 hi.to]] w fun e w'=>e=.returned (.tuple #[.agg #[.int .u8 a,.int .u32 b],.int .u8 er]) ∧
   ∃ W W1,Keeps w W∧Upd F W W1∧R W W1∧Upd (fun k=>w.heap.size≤k∧k<W.heap.size) W1 w':=by
 have HF:=Lib.hid hf
 have nF:∀ k,w.heap.size≤k→¬F k:=fun k hk h=>by have:=hlt k h;omega
 have n2:=nF (w.heap.size+2) (by omega)
 clear hf hlt nF
 go_enter Tryz.func111,Tryz.ntmps111
 go_wp2_with (go_at_call 169;refine(HF.out _ (by(exact kp))).mono ?_;rintro e w3 ⟨rfl,hu,hR⟩;have hs3:=hu.size;(try simp only [World.size_alloc,World.size_setCell,World.size_drew] at hs3);have v0:=hu.cell (a:=⟨w.heap.size+2,0,none⟩) n2 (v:=.int .u8 0) (by simp [go_sem]);have v1:=hu.cell (a:=⟨w.heap.size+2,1,none⟩) n2 (v:=.int .u32 0) (by simp [go_sem]);have vf:=fun o:Nat=>hu.frozen (a:=⟨w.heap.size+2,o,none⟩) (by simp [go_sem]) n2 (by simp [go_sem]);have hv2:w.heap.size+2<w3.heap.size:=(by omega))
 all_goals refine bodyPost_ret (v:=.tuple #[.agg #[.int .u8 a,.int .u32 b],.int .u8 er]) (by simp [results,Tryz.results111,go_sem,hv2,v0,v1]) rfl ⟨rfl,_,w3,by(exact kp),hu,hR,?_⟩
 all_goals(try simp only [World.size_alloc,World.size_setCell,World.size_drew])
 all_goals(repeat (first|with_reducible exact Upd.refl _ _|exact Upd.mono hu4 (fun k _ hk=>⟨hk.1,by(try simp only [World.size_alloc,World.size_setCell,World.size_drew]);have:=hk.2;omega⟩)|refine Upd.setCell ?_ (Or.inl (by dsimp only;omega)) _|refine Upd.setCell ?_ (Or.inr (by dsimp only;omega)) _|with_reducible refine Upd.drewN ?_ _|with_reducible refine Upd.drew ?_|with_reducible refine Upd.alloc ?_ _))

theorem kmake_z {F:Nat→Prop}(R:World→World→Prop)(sb:Nat)(l a b er:Int)(lo hi:Edge)(w:World)(hsb:sb<w.heap.size)(hlt:∀ k,F k→k<w.heap.size)
  (hf:∀ W,Keeps w W→Calls Tryz.prog 170 #[.pointer (some ⟨sb,0,none⟩),.int .i64 l,.agg #[.int .u8 lo.tag,.int .u32 lo.to],.agg #[.int .u8 hi.tag,.int .u32 hi.to]] W fun e w'=>e=.returned (.tuple #[.agg #[.int .u8 a,.int .u32 b],.int .u8 er])∧Upd F W w'∧R W w') :
  Calls Tryz.prog 111 #[.pointer (some ⟨sb,0,none⟩),.int .u8 2,.int .i64 l,.agg #[.int .u8 lo.tag,.int .u32 lo.to],.agg #[.int .u8 hi.tag,.int .u32 hi.to]] w fun e w'=>e=.returned (.tuple #[.agg #[.int .u8 a,.int .u32 b],.int .u8 er]) ∧
   ∃ W W1,Keeps w W∧Upd F W W1∧R W W1∧Upd (fun k=>w.heap.size≤k∧k<W.heap.size) W1 w':=by
 have HF:=Lib.hid hf
 have nF:∀ k,w.heap.size≤k→¬F k:=fun k hk h=>by have:=hlt k h;omega
 have n2:=nF (w.heap.size+2) (by omega)
 clear hf hlt nF
 go_enter Tryz.func111,Tryz.ntmps111
 go_wp2_with (go_at_call 170;refine(HF.out _ (by(exact kp))).mono ?_;rintro e w3 ⟨rfl,hu,hR⟩;have hs3:=hu.size;(try simp only [World.size_alloc,World.size_setCell,World.size_drew] at hs3);have v0:=hu.cell (a:=⟨w.heap.size+2,0,none⟩) n2 (v:=.int .u8 0) (by simp [go_sem]);have v1:=hu.cell (a:=⟨w.heap.size+2,1,none⟩) n2 (v:=.int .u32 0) (by simp [go_sem]);have vf:=fun o:Nat=>hu.frozen (a:=⟨w.heap.size+2,o,none⟩) (by simp [go_sem]) n2 (by simp [go_sem]);have hv2:w.heap.size+2<w3.heap.size:=(by omega))
 all_goals refine bodyPost_ret (v:=.tuple #[.agg #[.int .u8 a,.int .u32 b],.int .u8 er]) (by simp [results,Tryz.results111,go_sem,hv2,v0,v1]) rfl ⟨rfl,_,w3,by(exact kp),hu,hR,?_⟩
 all_goals(try simp only [World.size_alloc,World.size_setCell,World.size_drew])
 all_goals(repeat (first|with_reducible exact Upd.refl _ _|exact Upd.mono hu4 (fun k _ hk=>⟨hk.1,by(try simp only [World.size_alloc,World.size_setCell,World.size_drew]);have:=hk.2;omega⟩)|refine Upd.setCell ?_ (Or.inl (by dsimp only;omega)) _|refine Upd.setCell ?_ (Or.inr (by dsimp only;omega)) _|with_reducible refine Upd.drewN ?_ _|with_reducible refine Upd.drew ?_|with_reducible refine Upd.alloc ?_ _))

theorem kmake_c {F:Nat→Prop}(R:World→World→Prop)(sb:Nat)(l a b er:Int)(lo hi:Edge)(w:World)(hsb:sb<w.heap.size)(hlt:∀ k,F k→k<w.heap.size)
  (hf:∀ W,Keeps w W→Calls Tryz.prog 171 #[.pointer (some ⟨sb,0,none⟩),.int .i64 l,.agg #[.int .u8 lo.tag,.int .u32 lo.to],.agg #[.int .u8 hi.tag,.int .u32 hi.to]] W fun e w'=>e=.returned (.tuple #[.agg #[.int .u8 a,.int .u32 b],.int .u8 er])∧Upd F W w'∧R W w') :
  Calls Tryz.prog 111 #[.pointer (some ⟨sb,0,none⟩),.int .u8 3,.int .i64 l,.agg #[.int .u8 lo.tag,.int .u32 lo.to],.agg #[.int .u8 hi.tag,.int .u32 hi.to]] w fun e w'=>e=.returned (.tuple #[.agg #[.int .u8 a,.int .u32 b],.int .u8 er]) ∧
   ∃ W W1,Keeps w W∧Upd F W W1∧R W W1∧Upd (fun k=>w.heap.size≤k∧k<W.heap.size) W1 w':=by
 have HF:=Lib.hid hf
 have nF:∀ k,w.heap.size≤k→¬F k:=fun k hk h=>by have:=hlt k h;omega
 have n2:=nF (w.heap.size+2) (by omega)
 clear hf hlt nF
 go_enter Tryz.func111,Tryz.ntmps111
 go_wp2_with (go_at_call 171;refine(HF.out _ (by(exact kp))).mono ?_;rintro e w3 ⟨rfl,hu,hR⟩;have hs3:=hu.size;(try simp only [World.size_alloc,World.size_setCell,World.size_drew] at hs3);have v0:=hu.cell (a:=⟨w.heap.size+2,0,none⟩) n2 (v:=.int .u8 0) (by simp [go_sem]);have v1:=hu.cell (a:=⟨w.heap.size+2,1,none⟩) n2 (v:=.int .u32 0) (by simp [go_sem]);have vf:=fun o:Nat=>hu.frozen (a:=⟨w.heap.size+2,o,none⟩) (by simp [go_sem]) n2 (by simp [go_sem]);have hv2:w.heap.size+2<w3.heap.size:=(by omega))
 all_goals refine bodyPost_ret (v:=.tuple #[.agg #[.int .u8 a,.int .u32 b],.int .u8 er]) (by simp [results,Tryz.results111,go_sem,hv2,v0,v1]) rfl ⟨rfl,_,w3,by(exact kp),hu,hR,?_⟩
 all_goals(try simp only [World.size_alloc,World.size_setCell,World.size_drew])
 all_goals(repeat (first|with_reducible exact Upd.refl _ _|exact Upd.mono hu4 (fun k _ hk=>⟨hk.1,by(try simp only [World.size_alloc,World.size_setCell,World.size_drew]);have:=hk.2;omega⟩)|refine Upd.setCell ?_ (Or.inl (by dsimp only;omega)) _|refine Upd.setCell ?_ (Or.inr (by dsimp only;omega)) _|with_reducible refine Upd.drewN ?_ _|with_reducible refine Upd.drew ?_|with_reducible refine Upd.alloc ?_ _))

theorem kmake_q {F:Nat→Prop}(R:World→World→Prop)(sb:Nat)(l a b er:Int)(lo hi:Edge)(w:World)(hsb:sb<w.heap.size)(hlt:∀ k,F k→k<w.heap.size)
  (hf:∀ W,Keeps w W→Calls Tryz.prog 172 #[.pointer (some ⟨sb,0,none⟩),.int .i64 l,.agg #[.int .u8 lo.tag,.int .u32 lo.to],.agg #[.int .u8 hi.tag,.int .u32 hi.to]] W fun e w'=>e=.returned (.tuple #[.agg #[.int .u8 a,.int .u32 b],.int .u8 er])∧Upd F W w'∧R W w') :
  Calls Tryz.prog 111 #[.pointer (some ⟨sb,0,none⟩),.int .u8 4,.int .i64 l,.agg #[.int .u8 lo.tag,.int .u32 lo.to],.agg #[.int .u8 hi.tag,.int .u32 hi.to]] w fun e w'=>e=.returned (.tuple #[.agg #[.int .u8 a,.int .u32 b],.int .u8 er]) ∧
   ∃ W W1,Keeps w W∧Upd F W W1∧R W W1∧Upd (fun k=>w.heap.size≤k∧k<W.heap.size) W1 w':=by
 have HF:=Lib.hid hf
 have nF:∀ k,w.heap.size≤k→¬F k:=fun k hk h=>by have:=hlt k h;omega
 have n2:=nF (w.heap.size+2) (by omega)
 clear hf hlt nF
 go_enter Tryz.func111,Tryz.ntmps111
 go_wp2_with (go_at_call 172;refine(HF.out _ (by(exact kp))).mono ?_;rintro e w3 ⟨rfl,hu,hR⟩;have hs3:=hu.size;(try simp only [World.size_alloc,World.size_setCell,World.size_drew] at hs3);have v0:=hu.cell (a:=⟨w.heap.size+2,0,none⟩) n2 (v:=.int .u8 0) (by simp [go_sem]);have v1:=hu.cell (a:=⟨w.heap.size+2,1,none⟩) n2 (v:=.int .u32 0) (by simp [go_sem]);have vf:=fun o:Nat=>hu.frozen (a:=⟨w.heap.size+2,o,none⟩) (by simp [go_sem]) n2 (by simp [go_sem]);have hv2:w.heap.size+2<w3.heap.size:=(by omega))
 all_goals refine bodyPost_ret (v:=.tuple #[.agg #[.int .u8 a,.int .u32 b],.int .u8 er]) (by simp [results,Tryz.results111,go_sem,hv2,v0,v1]) rfl ⟨rfl,_,w3,by(exact kp),hu,hR,?_⟩
 all_goals(try simp only [World.size_alloc,World.size_setCell,World.size_drew])
 all_goals(repeat (first|with_reducible exact Upd.refl _ _|exact Upd.mono hu4 (fun k _ hk=>⟨hk.1,by(try simp only [World.size_alloc,World.size_setCell,World.size_drew]);have:=hk.2;omega⟩)|refine Upd.setCell ?_ (Or.inl (by dsimp only;omega)) _|refine Upd.setCell ?_ (Or.inr (by dsimp only;omega)) _|with_reducible refine Upd.drewN ?_ _|with_reducible refine Upd.drew ?_|with_reducible refine Upd.alloc ?_ _))

theorem kmake_t {F:Nat→Prop}(R:World→World→Prop)(sb:Nat)(l a b er:Int)(lo hi:Edge)(w:World)(hsb:sb<w.heap.size)(hlt:∀ k,F k→k<w.heap.size)
  (hf:∀ W,Keeps w W→Calls Tryz.prog 173 #[.pointer (some ⟨sb,0,none⟩),.int .i64 l,.agg #[.int .u8 lo.tag,.int .u32 lo.to],.agg #[.int .u8 hi.tag,.int .u32 hi.to]] W fun e w'=>e=.returned (.tuple #[.agg #[.int .u8 a,.int .u32 b],.int .u8 er])∧Upd F W w'∧R W w') :
  Calls Tryz.prog 111 #[.pointer (some ⟨sb,0,none⟩),.int .u8 5,.int .i64 l,.agg #[.int .u8 lo.tag,.int .u32 lo.to],.agg #[.int .u8 hi.tag,.int .u32 hi.to]] w fun e w'=>e=.returned (.tuple #[.agg #[.int .u8 a,.int .u32 b],.int .u8 er]) ∧
   ∃ W W1,Keeps w W∧Upd F W W1∧R W W1∧Upd (fun k=>w.heap.size≤k∧k<W.heap.size) W1 w':=by
 have HF:=Lib.hid hf
 have nF:∀ k,w.heap.size≤k→¬F k:=fun k hk h=>by have:=hlt k h;omega
 have n2:=nF (w.heap.size+2) (by omega)
 clear hf hlt nF
 go_enter Tryz.func111,Tryz.ntmps111
 go_wp2_with (go_at_call 173;refine(HF.out _ (by(exact kp))).mono ?_;rintro e w3 ⟨rfl,hu,hR⟩;have hs3:=hu.size;(try simp only [World.size_alloc,World.size_setCell,World.size_drew] at hs3);have v0:=hu.cell (a:=⟨w.heap.size+2,0,none⟩) n2 (v:=.int .u8 0) (by simp [go_sem]);have v1:=hu.cell (a:=⟨w.heap.size+2,1,none⟩) n2 (v:=.int .u32 0) (by simp [go_sem]);have vf:=fun o:Nat=>hu.frozen (a:=⟨w.heap.size+2,o,none⟩) (by simp [go_sem]) n2 (by simp [go_sem]);have hv2:w.heap.size+2<w3.heap.size:=(by omega))
 all_goals refine bodyPost_ret (v:=.tuple #[.agg #[.int .u8 a,.int .u32 b],.int .u8 er]) (by simp [results,Tryz.results111,go_sem,hv2,v0,v1]) rfl ⟨rfl,_,w3,by(exact kp),hu,hR,?_⟩
 all_goals(try simp only [World.size_alloc,World.size_setCell,World.size_drew])
 all_goals(repeat (first|with_reducible exact Upd.refl _ _|exact Upd.mono hu4 (fun k _ hk=>⟨hk.1,by(try simp only [World.size_alloc,World.size_setCell,World.size_drew]);have:=hk.2;omega⟩)|refine Upd.setCell ?_ (Or.inl (by dsimp only;omega)) _|refine Upd.setCell ?_ (Or.inr (by dsimp only;omega)) _|with_reducible refine Upd.drewN ?_ _|with_reducible refine Upd.drew ?_|with_reducible refine Upd.alloc ?_ _))

theorem kmake_no (sb:Nat)(f l:Int)(lo hi:Edge)(w:World)(hsb:sb<w.heap.size)(h1:f≠1)(h2:f≠2)(h3:f≠3)(h4:f≠4)(h5:f≠5) :
  Calls Tryz.prog 111 #[.pointer (some ⟨sb,0,none⟩),.int .u8 f,.int .i64 l,.agg #[.int .u8 lo.tag,.int .u32 lo.to],.agg #[.int .u8 hi.tag,.int .u32 hi.to]] w fun e w'=>e=.returned (.tuple #[.agg #[.int .u8 0,.int .u32 0],.int .u8 4])∧Keeps w w':=by
 have g1:(f==1)=false:=by simp [h1]
 have g2:(f==2)=false:=by simp [h2]
 have g3:(f==3)=false:=by simp [h3]
 have g4:(f==4)=false:=by simp [h4]
 have g5:(f==5)=false:=by simp [h5]
 clear h1 h2 h3 h4 h5
 go_enter Tryz.func111,Tryz.ntmps111
 go_wp2
 all_goals refine bodyPost_ret (v:=.tuple #[.agg #[.int .u8 0,.int .u32 0],.int .u8 4]) (by simp [results,Tryz.results111,go_sem]) rfl ⟨rfl,by(exact kp)⟩

theorem canon_make {F:Nat→Prop}{w:World}{sb:Nat}{M:St}(h:StoreRep F w sb M)(f l:Int)(lo hi:Edge)(hlo:lo.ok)(hhi:hi.ok) :
  Calls Tryz.prog 111 #[.pointer (some ⟨sb,0,none⟩),.int .u8 f,.int .i64 l,.agg #[.int .u8 lo.tag,.int .u32 lo.to],.agg #[.int .u8 hi.tag,.int .u32 hi.to]] w fun r w'=>
   r=.returned (.tuple #[.agg #[.int .u8 (kE M f (kAct M f l lo hi)).tag,.int .u32 (kE M f (kAct M f l lo hi)).to],.int .u8 (actErr M (kAct M f l lo hi))])∧Upd F w w'∧StoreRep (Grow F w w') w' sb (actSt M (kAct M f l lo hi)):=by
 by_cases f1:f=1
 ·subst f1
  have e1:kAct M 1 l lo hi=makeAct M 1 l lo hi (bRest M l lo hi):=rfl
  have e2:kE M 1 (kAct M 1 l lo hi)=actE0 M (makeAct M 1 l lo hi (bRest M l lo hi)):=by rw [e1];rfl
  rw [e2,e1]
  refine(kmake_b (fun W W1=>StoreRep (Grow F W W1) W1 sb (actSt M (makeAct M 1 l lo hi (bRest M l lo hi)))) sb l _ _ _ lo hi w h.pos h.lt (fun W hW=>bdd_make (h.keeps hW) l lo hi hlo hhi)).mono ?_
  rintro e w' ⟨rfl,W,W1,q1,q2,q3,q4⟩
  exact⟨rfl,q3.after h.lt q1 q2 q4⟩
 by_cases f2:f=2
 ·subst f2
  have e1:kAct M 2 l lo hi=makeAct M 2 l lo hi (zRest M l lo hi):=rfl
  have e2:kE M 2 (kAct M 2 l lo hi)=actE0 M (makeAct M 2 l lo hi (zRest M l lo hi)):=by rw [e1];rfl
  rw [e2,e1]
  refine(kmake_z (fun W W1=>StoreRep (Grow F W W1) W1 sb (actSt M (makeAct M 2 l lo hi (zRest M l lo hi)))) sb l _ _ _ lo hi w h.pos h.lt (fun W hW=>zdd_make (h.keeps hW) l lo hi hlo hhi)).mono ?_
  rintro e w' ⟨rfl,W,W1,q1,q2,q3,q4⟩
  exact⟨rfl,q3.after h.lt q1 q2 q4⟩
 by_cases f3:f=3
 ·subst f3
  have e1:kAct M 3 l lo hi=makeAct M 3 l lo hi (cRest M l lo hi):=rfl
  have e2:kE M 3 (kAct M 3 l lo hi)=actE0 M (makeAct M 3 l lo hi (cRest M l lo hi)):=by rw [e1];rfl
  rw [e2,e1]
  refine(kmake_c (fun W W1=>StoreRep (Grow F W W1) W1 sb (actSt M (makeAct M 3 l lo hi (cRest M l lo hi)))) sb l _ _ _ lo hi w h.pos h.lt (fun W hW=>cbdd_make (h.keeps hW) l lo hi hlo hhi)).mono ?_
  rintro e w' ⟨rfl,W,W1,q1,q2,q3,q4⟩
  exact⟨rfl,q3.after h.lt q1 q2 q4⟩
 by_cases f4:f=4
 ·subst f4
  have e1:kAct M 4 l lo hi=makeAct M 4 l lo hi (qRest M l lo hi):=rfl
  have e2:kE M 4 (kAct M 4 l lo hi)=actE0 M (makeAct M 4 l lo hi (qRest M l lo hi)):=by rw [e1];rfl
  rw [e2,e1]
  refine(kmake_q (fun W W1=>StoreRep (Grow F W W1) W1 sb (actSt M (makeAct M 4 l lo hi (qRest M l lo hi)))) sb l _ _ _ lo hi w h.pos h.lt (fun W hW=>czdd_make (h.keeps hW) l lo hi hlo hhi)).mono ?_
  rintro e w' ⟨rfl,W,W1,q1,q2,q3,q4⟩
  exact⟨rfl,q3.after h.lt q1 q2 q4⟩
 by_cases f5:f=5
 ·subst f5
  have e1:kAct M 5 l lo hi=tAct M l lo hi:=rfl
  have e2:kE M 5 (kAct M 5 l lo hi)=actE M (tAct M l lo hi):=by rw [e1];rfl
  rw [e2,e1]
  refine(kmake_t (fun W W1=>StoreRep (Grow F W W1) W1 sb (actSt M (tAct M l lo hi))) sb l _ _ _ lo hi w h.pos h.lt (fun W hW=>tbdd_make (h.keeps hW) l lo hi hlo hhi)).mono ?_
  rintro e w' ⟨rfl,W,W1,q1,q2,q3,q4⟩
  exact⟨rfl,q3.after h.lt q1 q2 q4⟩
 have e1:kAct M f l lo hi=.inl (⟨0,0⟩,4):=by unfold kAct;rw [if_neg f1,if_neg f2,if_neg f3,if_neg f4,if_neg f5]
 have e2:kE M f (kAct M f l lo hi)=⟨0,0⟩:=by rw [e1];unfold kE;split<;>rfl
 rw [e2,e1]
 exact(kmake_no sb f l lo hi w h.pos f1 f2 f3 f4 f5).mono fun r w' hr=>⟨hr.1,h.stay hr.2⟩

def oneE (f n:Int):Edge:=if f=5 then⟨n,1⟩ else⟨0,1⟩

theorem one_calls (f n:Int)(w:World)(hf:isFormB f=true)(hn0:0≤n)(hn:n≤16):Calls Tryz.prog 207 #[.int .u8 f,.int .i64 n] w fun e w'=>e=.returned (.agg #[.int .u8 (oneE f n).tag,.int .u32 (oneE f n).to])∧Keeps w w':=by
 have h2:mayB n=true:=by simp [mayB,hn0,hn]
 by_cases h5:f=5
 ·subst h5
  go_enter Tryz.func207,Tryz.ntmps207
  go_wp2_with (first|(go_at_call 153;refine(isForm_calls _ _).mono ?_;rintro e w' ⟨rfl,rfl⟩)|(go_at_call 191;refine(may_calls _ _).mono ?_;rintro e w' ⟨rfl,rfl⟩)|fail)
  all_goals refine bodyPost_ret (v:=.agg #[.int .u8 n,.int .u32 1]) (by simp [results,Tryz.results207,go_sem]) rfl ⟨rfl,by(exact kp)⟩
 ·have h6:(f==5)=false:=by simp [h5]
  have e:oneE f n=⟨0,1⟩:=if_neg h5
  rw [e]
  go_enter Tryz.func207,Tryz.ntmps207
  go_wp2_with (first|(go_at_call 153;refine(isForm_calls _ _).mono ?_;rintro e w' ⟨rfl,rfl⟩)|(go_at_call 191;refine(may_calls _ _).mono ?_;rintro e w' ⟨rfl,rfl⟩)|fail)
  all_goals refine bodyPost_ret (v:=.agg #[.int .u8 0,.int .u32 1]) (by simp [results,Tryz.results207,go_sem]) rfl ⟨rfl,by(exact kp)⟩

def WordsAt (w:World)(a:Option Addr)(ws:List Int):Prop:=∀ i x,ws[i]?=some x→(0≤x∧x<2 ^ 64)∧∃ b off,a=some ⟨b,off,none⟩∧w.cell? ⟨b,off+i,none⟩=some (.int .u64 x)

theorem WordsAt.keeps {w w':World}{a:Option Addr}{ws:List Int}(h:WordsAt w a ws)(hk:Keeps w w'):WordsAt w' a ws:=fun i x hx=>by
 obtain⟨h1,b,off,ha,hc⟩:=h i x hx
 exact⟨h1,b,off,ha,hk.cell hc⟩

def RowU (w:World)(g:Nat)(ps:List Int):Prop:=∃ cur:Array Value,w.heap[g]?=some (.cells cur 50 (0,0))∧∀ (i:Nat) (x:Int),ps[i]?=some x→cur[i]?=some (Value.int .u64 x)

theorem RowU.cell {w:World}{g:Nat}{ps:List Int}(h:RowU w g ps){i:Nat}{x:Int}(hx:ps[i]?=some x):w.cell? ⟨g,i,none⟩=some (.int .u64 x):=by
 obtain⟨cur,h1,h2⟩:=h
 rw [cell_of_row w g i _ _ _ h1]
 simp only [h2 i x hx]

theorem RowU.frozen {w:World}{g:Nat}{ps:List Int}(h:RowU w g ps)(i:Nat):w.frozen? ⟨g,i,none⟩=false:=by
 obtain⟨cur,h1,h2⟩:=h
 exact frozen_of_row w g i _ _ h1

theorem RowU.lt {w:World}{g:Nat}{ps:List Int}(h:RowU w g ps):g<w.heap.size:=by
 obtain⟨cur,h1,h2⟩:=h
 exact lt_of_heap h1

theorem RowU.keep {G:Nat→Prop}{w w':World}{g:Nat}{ps:List Int}(h:RowU w g ps)(hu:Upd G w w')(hg:¬G g):RowU w' g ps:=by
 have hl:=h.lt
 obtain⟨cur,h1,h2⟩:=h
 exact⟨cur,(hu.block g hl hg).trans h1,h2⟩

theorem RowU.keeps {w w':World}{g:Nat}{ps:List Int}(h:RowU w g ps)(hk:Keeps w w'):RowU w' g ps:=h.keep (hk.upd (fun _=>False)) (fun h=>h)

theorem RowU.words {w:World}{g:Nat}{ps:List Int}(h:RowU w g ps)(hr:∀ x∈ps,0≤x∧x<2 ^ 64):WordsAt w (some ⟨g,0,none⟩) ps:=fun i x hx=>⟨hr x (List.mem_of_getElem? hx),g,0,rfl,by rw [Nat.zero_add];exact h.cell hx⟩

theorem RowU.set {w:World}{g:Nat}{ps:List Int}(h:RowU w g ps)(i:Nat)(y:Int)(hi:i<ps.length):RowU (w.setCell ⟨g,i,none⟩ (.int .u64 y)) g (ps.set i y):=by
 obtain⟨cur,h1,h2⟩:=h
 refine⟨_,Go.heap_setCell_same w g i _ _ (.int .u64 y) h1,fun j x hx=>?_⟩
 rw [Array.getElem?_setIfInBounds]
 by_cases hj:i=j
 ·subst hj
  have hc:=h2 i ps[i] (by simp [hi])
  have hs:i<cur.size:=(Array.getElem?_eq_some_iff.1 hc).1
  rw [if_pos rfl,if_pos hs]
  simp [hi] at hx
  rw [hx]
 ·rw [if_neg hj]
  rw [List.getElem?_set_ne hj] at hx
  exact h2 j x hx

theorem rowU_made {w:World}{blk n:Nat}(h:w.ownsRow blk 50 1 (.slice (some ⟨blk,0,none⟩) n n) n (madeCells (Value.int .u64 0).cells (n*1)).toList):RowU w blk (List.replicate n 0):=by
 have e:(madeCells (Value.int .u64 0).cells (n*1)).toList=(List.replicate n (0:Int)).map (Value.int .u64):=by
  rw [List.map_replicate,Nat.mul_one]
  simp [madeCells,Value.cells,Nat.mod_one]
  rw [List.map_const',List.length_range]
 rw [e] at h
 rcases h.2 with⟨h0,_⟩|⟨g',cap',cur,hv,hb,hg,_,_,hs,ht⟩
 ·cases h0
 ·cases hv
  obtain⟨cur0,hcur0⟩:=owns_type h (k:=blk) rfl
  refine⟨cur,hg,fun i x hx=>?_⟩
  have h1:((List.replicate n (0:Int)).map (Value.int .u64))[i]?=some (.int .u64 x):=by rw [List.getElem?_map,hx];rfl
  rw [← ht,List.getElem?_take] at h1
  split at h1
  ·rw [Array.getElem?_toList] at h1
   exact h1
  ·cases h1

theorem info_u64:(Tryz.prog.info? 50).map (fun i=>(i.zero,i.size,i.bytes))=some (some (.int .u64 0),1,8):=by kernel_rfl

end Go.Proofs.YtpgcbmbnognieaaGreat
