/-
  A row of bools of the call's own; which ids of the document's list are marked.
-/
import Derived.Test.YtafkamlhimkbmaaGreatPSortC
import Derived.Test.YtafkamlhimkbmaaGreatPWordsR
import Derived.Laws.OwnMore
import Derived.Maps.RangeWalk
import Derived.Maps.OwnOps
import Derived.Laws.EntriesVeiled
namespace Go.Proofs.YtafkamlhimkbmaaGreat
set_option maxRecDepth 1000000
set_option maxHeartbeats 8000000
set_option linter.unusedSimpArgs false
set_option linter.unusedVariables false
open Go.RowKit
def cR (w:World)(s:Nat)(bs:List Bool):Prop:=w.heap[s]?=some (.cells (bs.map Value.bool).toArray 4 (0,0))
theorem cR.cell {w:World}{s:Nat}{bs:List Bool}(h:cR w s bs){i:Nat}{b:Bool}(t:bs[i]?=some b):w.cell? ⟨s,i,none⟩=some (.bool b):=by
 rw[cell_of_row w s i _ _ _ h];simp[t]
theorem cR.frozen {w:World}{s:Nat}{bs:List Bool}(h:cR w s bs)(i:Nat):w.frozen? ⟨s,i,none⟩=false:=frozen_of_row w s i _ _ h
theorem cR.lt {w:World}{s:Nat}{bs:List Bool}(h:cR w s bs):s<w.heap.size:=bu h
theorem cR.keep {G:Nat→Prop}{w t:World}{s:Nat}{bs:List Bool}(h:cR w s bs)(z:af G w t)(u:¬G s):cR t s bs:=(z.block s h.lt u).trans h
theorem cR.set {w:World}{s:Nat}{bs:List Bool}(h:cR w s bs)(i:Nat)(b:Bool):cR (w.setCell ⟨s,i,none⟩ (.bool b)) s (bs.set i b):=by
 have e:=Go.heap_setCell_same w s i _ _ (.bool b) h;unfold cR;rw[e];simp[List.map_set]
theorem rP {w:World}{s n:Nat}(h:w.ownsRow s 4 1 (.slice (some ⟨s,0,none⟩) n n) n (madeCells (Value.bool false).cells (n*1)).toList):cR w s (List.replicate n false):=by
 obtain⟨I,J⟩:=cU h (k:=s) rfl;rcases h.2 with⟨h0,_⟩|⟨g,cap,u,E,_,D,_,_,hs,t⟩
 ·cases h0
 ·cases E;unfold cR;rw[D]
  have s:(madeCells (Value.bool false).cells (n*1)).toList=List.replicate n (Value.bool false):=by
   show(madeCells #[Value.bool false] (n*1)).toList=_;rw[toList_madeCells_one,Nat.mul_one]
  rw[s]at t
  have z:u.toList=List.replicate n (Value.bool false):=by
   rw[←t,fm (by simp;omega)]
  congr 2
  rw[List.map_replicate,←z]
def eG (S:List Int):DataW Unit:=Maps.setOf (.lit (.int .i64 1)) (S.map (Lit.int .u32))
theorem vD (S:List Int)(x:Int):eG (S++[x])=(eG S).put (.int .u32 x) (.lit (.int .i64 1)):=by
 unfold eG;rw[jB,List.map_singleton,Maps.setOf_snoc]
theorem vE (S:List Int):∀x∈S.map (Lit.int .u32),WideAt.IsKeyLit x:=by
 intro x s;obtain⟨y,_,rfl⟩:=List.mem_map.1 s;trivial
theorem ml (S:List Int)(x:Int):Maps.has (eG S) (.int .u32 x)=true↔x∈S:=by
 unfold eG;rw[Maps.has_setOf _ _ _ (vE S),List.any_eq_true];constructor
 ·rintro⟨y,s,hs⟩;obtain⟨u,t,rfl⟩:=List.mem_map.1 s;have:=WideAt.sameKey_eq hs;cases this;exact t
 ·intro h;exact⟨_,List.mem_map.2 ⟨x,h,rfl⟩,WideAt.sameKey_self trivial⟩
theorem tL (x:Int):∀(S:List Int) (t:DataW Unit),Maps.IsMap t→x∈S→((S.map (Lit.int .u32)).foldl (fun m k=>m.put k (.lit (.int .i64 1))) t).atKey (.int .u32 x) (.lit (.int .i64 0))=.lit (.int .i64 1):=by
 intro S;induction S with
 |nil=>intro t _ h;simp at h
 |cons y S J=>
  intro t D h;simp only[List.map_cons,List.foldl_cons];by_cases z:x∈S;·exact J _ (D.put _ _) z
  ·have I:x=y:=(by simpa[z]using h);subst I
   have:∀(s:List Int) (u:DataW Unit),x∉s→((s.map (Lit.int .u32)).foldl (fun m k=>m.put k (.lit (.int .i64 1))) u).atKey (.int .u32 x) (.lit (.int .i64 0))=u.atKey (.int .u32 x) (.lit (.int .i64 0)):=by
    intro s;induction s with
    |nil=>intro u _;rfl
    |cons t s N=>
     intro u E;simp only[List.map_cons,List.foldl_cons];rw[N _ (fun h=>E (ew _ h))];exact Maps.atKey_put_other (fun e=>E (by cases e;simp)) _ _
   rw[this S _ z];exact Maps.atKey_put_same D (show WideAt.IsKeyLit (.int .u32 x)from True.intro) _ _
theorem vB {S:List Int}{x:Int}(h:x∈S):(eG S).atKey (.int .u32 x) (.lit (.int .i64 0))=.lit (.int .i64 1):=tL x S _ Maps.isMap_empty h
theorem vC {S:List Int}{x:Int}(h:x∉S):(eG S).atKey (.int .u32 x) (.lit (.int .i64 0))=.lit (.int .i64 0):=by
 refine Maps.atKey_of_not_has ?_ _;cases s:Maps.has (eG S) (.int .u32 x)with
 |false=>rfl
 |true=>exact absurd ((ml S x).1 s) h
theorem od:∀(n:Nat) (S:List Int),S.Nodup→(∀x∈S,2≤x∧x-2<(n:Int))→S.length≤n:=by
 intro n;induction n with
 |zero=>
  intro S _ h;cases S with
  |nil=>simp
  |cons x S=>have:=h x (by simp);omega
 |succ n t=>
  intro S hS h
  have u:=t (S.erase ((n:Int)+2)) (hS.erase _) (fun x s=>by
   obtain⟨u,t⟩:=(List.Nodup.mem_erase_iff hS).1 s;have:=h x t
   omega)
  have s:S.length≤(S.erase ((n:Int)+2)).length+1:=by
   rw[List.length_erase];split<;>omega
  omega
theorem AD (w:World):(zeroValue 3).run Tryz.prog w=.ok (.int .i64 0) w:=by kernel_rfl
structure cY (F:Nat→Prop)(sb:Nat)(M:St)(sx nb vb b:Nat)(S:List Int)(W:World):Prop where
 a':aq F W sb M
 cs:W.cell? ⟨sx,0,none⟩=some (.pointer (some ⟨sb,0,none⟩))
 cn:W.cell? ⟨nb,0,none⟩=some (.map (some b))
 cv:W.cell? ⟨vb,0,none⟩=some (.func (.func 177) #[] #[.pointer (some ⟨sx,0,none⟩),.pointer (some ⟨nb,0,none⟩),.pointer (some ⟨vb,0,none⟩)])
 nF:¬F b
 own:W.ownsMap Tryz.prog 50 (plainElem (H:=Unit) Tryz.prog 3) b S.length (eG S)
 b5:S.Nodup
 hj:∀x∈S,look M.cs x≠none
theorem cY.ne {F:Nat→Prop}{sb:Nat}{M:St}{t nb vb b:Nat}{S:List Int}{s:World}(h:cY F sb M t nb vb b S s):t≠b∧nb≠b∧vb≠b:=by
 obtain⟨es,clock,u,_⟩:=h.own
 have no:∀(k:Nat) (v:Value),s.cell? ⟨k,0,none⟩=some v→k≠b:=by
  intro k v z e;subst e;simp[World.cell?,u]at z
 exact⟨no _ _ h.cs,no _ _ h.cn,no _ _ h.cv⟩
theorem cY.hk {F:Nat→Prop}{sb:Nat}{M:St}{z nb vb b:Nat}{S:List Int}{s:World}(h:cY F sb M z nb vb b S s){k o:Nat}{v:Value}(u:s.cell? ⟨k,o,none⟩=some v):k≠b:=by
 obtain⟨es,clock,t,_⟩:=h.own;intro e;subst e;simp[World.cell?,t]at u
theorem ae.none {w s:World}(h:ae w s):w.grownBy s none:=⟨h.os,h.tape,h.output,h.size,fun i hi _=>h.block i hi⟩
theorem af.fD {b:Nat}{w s:World}(h:w.grownBy s (some b)):af (fun k=>k=b) w s:=⟨h.os,h.tape,h.output,h.size,fun i hi t=>h.block i hi (fun e=>t (by cases e;rfl))⟩
theorem af.cellAt {F:Nat→Prop}{w t:World}(h:af F w t){b o:Nat}{v:Value}(u:¬F b)(s:w.cell? ⟨b,o,none⟩=some v):t.cell? ⟨b,o,none⟩=some v:=by
 have:=h.block b (aJ (a:=⟨b,o,none⟩) s) u;rw[←s];simp only[World.cell?,this]
theorem cY.U {F:Nat→Prop}{sb:Nat}{M:St}{z nb vb b:Nat}{S:List Int}{t u:World}(h:cY F sb M z nb vb b S t)(s:ae t u):cY F sb M z nb vb b S u:=
 ⟨h.a'.U s,s.cell h.cs,s.cell h.cn,s.cell h.cv,h.nF,h.own.kept s.none (by simp),h.b5,h.hj⟩
theorem cY.next {F:Nat→Prop}{sb:Nat}{M:St}{E nb vb b:Nat}{S s:List Int}{D u:World}(h:cY F sb M E nb vb b S D)(t:af (fun k=>k=b) D u)
  (J:u.ownsMap Tryz.prog 50 (plainElem (H:=Unit) Tryz.prog 3) b s.length (eG s)) (I:s.Nodup) (z:∀x∈s,look M.cs x≠none):cY F sb M E nb vb b s u:=by
 obtain⟨N,O,Q⟩:=h.ne
 exact⟨h.a'.keep t (fun k z e=>h.nF (by cases e;exact z)),t.cellAt N h.cs,t.cellAt O h.cn,t.cellAt Q h.cv,h.nF,J,I,z⟩
theorem cY.mark {F:Nat→Prop}{sb:Nat}{M:St}{D nb vb b:Nat}{S:List Int}{u t:World}(h:cY F sb M D nb vb b S u)(N:af (fun k=>k=b) u t){id:Int}{r:Rec}
  (J:t.ownsMap Tryz.prog 50 (plainElem (H:=Unit) Tryz.prog 3) b (S.length+1) ((eG S).put (.int .u32 id) (.lit (.int .i64 1)))) (hm:id∉S) (I:look M.cs id=some r):cY F sb M D nb vb b (S++[id]) t:=by
 refine h.next N ?_ ?_ ?_
 ·rw[vD,fW];exact J
 ·refine List.nodup_append.2 ⟨h.b5,by simp,fun a E c z e=>?_⟩;rw[cZ]at z;subst e z;exact hm E
 ·intro x s;rcases List.mem_append.1 s with s|s;·exact h.hj x s
  ·rw[cZ]at s;rw[s,I];simp
theorem cY.cp {F:Nat→Prop}{sb:Nat}{M:St}{u nb vb b:Nat}{S:List Int}{s:World}(h:cY F sb M u nb vb b S s):S.length≤1048576:=by
 have s:=od M.cs.length S h.b5 (fun x t=>by
  cases s:look M.cs x with
  |none=>exact absurd s (h.hj x t)
  |some r=>have:=cC s;exact⟨this.1,this.2.1⟩)
 obtain⟨⟨z,ib,ts,t,u,_,s,_⟩,_⟩:=h.a';have:=s.cp;omega
def jY (F:Nat→Prop)(sb:Nat)(M:St)(z nb vb b:Nat)(id:Int)(S:List Int)(u:World)(e:Ending)(t:World):Prop:=
 e=.returned (.tuple #[])∧∃s,eQ M.cs id S s∧af (fun k=>k=b) u t∧cY F sb M z nb vb b (S++s) t
theorem qt {F:Nat→Prop}{sb:Nat}{M:St}{s nb vb b:Nat}{S:List Int}{w:World}(U id:Int)(hid:id≤4294967295)(h:cY F sb M s nb vb b S w)
  (a0:∀r,look M.cs id=some r→∀S t,cY F sb M s nb vb b S t→Calls Tryz.prog 177 #[.agg #[.int .u8 r.lo.tag,.int .u32 r.lo.to],.pointer (some ⟨s,0,none⟩),.pointer (some ⟨nb,0,none⟩),.pointer (some ⟨vb,0,none⟩)] t (jY F sb M s nb vb b r.lo.to S t))
  (ax:∀r,look M.cs id=some r→∀S t,cY F sb M s nb vb b S t→Calls Tryz.prog 177 #[.agg #[.int .u8 r.hi.tag,.int .u32 r.hi.to],.pointer (some ⟨s,0,none⟩),.pointer (some ⟨nb,0,none⟩),.pointer (some ⟨vb,0,none⟩)] t (jY F sb M s nb vb b r.hi.to S t)) :
  Calls Tryz.prog 177 #[.agg #[.int .u8 U,.int .u32 id],.pointer (some ⟨s,0,none⟩),.pointer (some ⟨nb,0,none⟩),.pointer (some ⟨vb,0,none⟩)] w (jY F sb M s nb vb b id S w):=by
 have ah:=aa h
 have a8:=aa a0
 have a7:=aa ax
 have am:=h.cs
 have Q:∃D,w.cell? ⟨sb,1,none⟩=some (.pointer (some ⟨D,0,none⟩))∧∀t,ae w t→Calls Tryz.prog 133 #[.pointer (some ⟨D,0,none⟩),.int .u32 id] t fun e N=>e=.returned (.tuple #[.agg #[.int .u8 (aS (look M.cs id)).ad,.int .u8 (aS (look M.cs id)).top,.int .u8 (aS (look M.cs id)).J,.int .u8 (aS (look M.cs id)).lo.tag,.int .u32 (aS (look M.cs id)).lo.to,.int .u8 (aS (look M.cs id)).hi.tag,.int .u32 (aS (look M.cs id)).hi.to],.bool (iH (look M.cs id))])∧ae t N:=by
  obtain⟨⟨D,ib,ts,bt,ce,bn,W,-⟩,-⟩:=h.a';exact⟨D,by rw[cell_of_row w sb 1 _ _ _ bn];rfl,fun t bt=>lr (W.U bt) id hid⟩
 obtain⟨D,av,Q⟩:=Q
 have H:=aa Q
 have b2:=aJ am
 have b1:=aJ av
 dsimp only at b2 b1
 have t:w.heap.size≠s:=by omega
 have t:w.heap.size≠sb:=by omega
 have t:w.heap.size+1≠s:=by omega
 have bw:w.heap.size+1≠sb:=by omega
 clear h a0 ax Q
 obtain⟨x,ab⟩:∃x,x=aS (look M.cs id):=⟨_,rfl⟩
 obtain⟨ok,Y⟩:∃ok,ok=iH (look M.cs id):=⟨_,rfl⟩
 rw[←ab,←Y]at H
 have ad:=aa Y
 have bb:=aa ab
 clear ab Y
 go_enter Tryz.func177,Tryz.ntmps177
 go_upto_region 1 with fail
 go_cut [5,6] (fun Q Y t=>∃B,Q=.pointer (some ⟨B,0,none⟩)∧Y=.bool ok∧t.cell? ⟨B,3,none⟩=some (.int .u8 x.lo.tag)∧t.cell? ⟨B,4,none⟩=some (.int .u32 x.lo.to)∧t.cell? ⟨B,5,none⟩=some (.int .u8 x.hi.tag)∧t.cell? ⟨B,6,none⟩=some (.int .u32 x.hi.to) ∧
  t.cell? ⟨w.heap.size,0,none⟩=some (.int .u8 U)∧t.cell? ⟨w.heap.size,1,none⟩=some (.int .u32 id)∧ae w t)
 case first=>
  go_region_held3 (fun N=>N.cell? ⟨s,0,none⟩=some (.pointer (some ⟨sb,0,none⟩))∧N.cell? ⟨sb,1,none⟩=some (.pointer (some ⟨D,0,none⟩))∧N.cell? ⟨w.heap.size,1,none⟩=some (.int .u32 id)) (go_keep) ((first|(go_at_call 133;refine(H.out _ kp).mono ?_;rintro e w1 ⟨rfl,I⟩;obtain⟨t,N⟩:=I.cells;have T:ae (w.alloc (.cells #[.int .u8 U,.int .u32 id] 52)) w1:=kp;have a4:ae w w1:=(((ae.refl _).alloc _).trans T);have a5:w1.cell? ⟨w.heap.size,0,none⟩=some (.int .u8 U):=T.cell (by simp);have a6:w1.cell? ⟨w.heap.size,1,none⟩=some (.int .u32 id):=T.cell (by simp);have t:=a4.cell am;have t:=a4.cell av;have b3:=T.size;simp only[ak]at b3;have bw:w1.heap.size≠sb:=(by omega);have t:w1.heap.size≠w.heap.size:=(by omega);have t:w1.heap.size≠s:=(by omega);have a1:w.heap.size<w1.heap.size:=(by omega))))
  all_goals(try go_wp2_with fail)
  all_goals go_meet
  all_goals first
   |exact⟨w1.heap.size,rfl,rfl,by simp[go_sem],by simp[go_sem],by simp[go_sem],by simp[go_sem],by simp[go_sem,a1,a5],by simp[go_sem,a1,a6],kp⟩
   |(have b9:=I.I (a:=⟨w.heap.size+1,3,none⟩) (v:=.int .u8 0)
     have ca:=I.I (a:=⟨w.heap.size+1,4,none⟩) (v:=.int .u32 0)
     have cb:=I.I (a:=⟨w.heap.size+1,5,none⟩) (v:=.int .u8 0)
     have cc:=I.I (a:=⟨w.heap.size+1,6,none⟩) (v:=.int .u32 0)
     exact⟨w.heap.size+1,rfl,rfl,by simp[go_sem,b9],by simp[go_sem,ca],by simp[go_sem,cb],by simp[go_sem,cc],by simp[go_sem,a5],by simp[go_sem,a6],kp⟩)
 case rest=>
  obtain⟨B,rfl,rfl,aw,d4,be,bh,bi,t,s⟩:=hcut;have u:=aa (ah.out.U s);have V:=aa s;have t:=u.out.cn;clear s;cases z:look M.cs id with
  |none=>
   have X:ok=false:=(by rw[ad.out,z];rfl);subst X;go_wp2;first|go_end0|refine an (results_none rfl _ _ _) rfl ?_
   exact⟨rfl,[],eQ.none z,ae.upd V.out _,by simpa using u.out⟩
  |some r=>
   have X:ok=true:=(by rw[ad.out,z];rfl);have b5:x=r:=(by rw[bb.out,z];rfl);subst X;subst b5;have b0:=cC z
   have s:M.cs.length≤1048576:=by
    obtain⟨⟨_,_,_,_,_,_,W,_⟩,_⟩:=ah.out.a';exact W.cp
   have b4:(Lit.int .u32 id).wf=true:=(by obtain⟨s,t,_⟩:=b0;simp[Lit.wf,show IntKind.u32.min=0 from rfl,show IntKind.u32.max=4294967295 from rfl];omega);have ay:=Maps.keyOf_int_mk Tryz.underlying50 b4;obtain⟨c,s,O,-⟩:=u.out.own.lookup_int (Maps.int_keyed Tryz.underlying50) Tryz.underlying187 Tryz.underlying3 (AD _) ay;by_cases hm:id∈S
   ·rw[vB hm]at O;cases O;go_wp2;first|go_end0|refine an (results_none rfl _ _ _) rfl ?_
    exact⟨rfl,[],eQ.ga hm,ae.upd V.out _,by simpa using u.out⟩
   ·rw[vC hm]at O;cases O;have bv:S.length<maxLen:=(by have:=u.out.cp;unfold maxLen;omega);have nB:B≠b:=u.out.hk aw;have s:w.heap.size≠b:=u.out.hk bi;go_wp2_with (first|(at_mapUpdate;refine wpList_mapUpdate_own _ rfl _ _ _ 187 rfl 50 3 (Maps.int_keyed Tryz.underlying50) Tryz.underlying187 _ b S.length _ rfl u.out.own bv _ _ (.int .u32 id) rfl rfl ay (.lit (.int .i64 1)) [] (plainElem_int Tryz.underlying3 (by decide)) ?_;intro I D t;have E:=aa (af.fD t);have s:=aa (u.out.mark E.out D hm z);have b6:=E.out.cellAt nB aw;have b7:=E.out.cellAt nB d4;have a2:=E.out.cellAt nB be;have a3:=E.out.cellAt nB bh;have b8:=s.out.cv;clear D t)|fail)
    refine(a8.out x z _ I s.out).mono ?_;rintro e cd ⟨rfl,bc,s,J,t⟩;have a9:=aa s;have J:=aa J;have al:=aa t;have a2:=J.out.cellAt nB a2;have a3:=J.out.cellAt nB a3;have b8:=al.out.cv;clear s t b6 b7;go_wp2_with fail;refine(a7.out x z _ cd al.out).mono ?_;rintro e s ⟨rfl,bd,s,Z,t⟩;have a':=aa s;have Z:=aa Z;have ba:=aa t;clear s t;go_wp2;first|go_end0|refine an (results_none rfl _ _ _) rfl ?_
    refine⟨rfl,id::(bc++bd),eQ.fX z hm a9.out a'.out,(((ae.upd V.out _).bd E.out).bd J.out).bd Z.out,?_⟩;have:=ba.out;simpa using this
theorem Ad {F:Nat→Prop}{sb:Nat}{M:St}{J nb vb b:Nat}:∀(t:Nat) (e:Edge) (S:List Int) (w:World),e.ok→cY F sb M J nb vb b S w→(∀r,look M.cs e.to=some r→M.n-r.top<(t:Int)) →
  Calls Tryz.prog 177 #[.agg #[.int .u8 e.tag,.int .u32 e.to],.pointer (some ⟨J,0,none⟩),.pointer (some ⟨nb,0,none⟩),.pointer (some ⟨vb,0,none⟩)] w (jY F sb M J nb vb b e.to S w):=by
 intro t
 induction t with
 |zero=>
  intro e S w he h z
  have no:∀r,look M.cs e.to=some r→False:=fun r s=>by
   have g:=h.a'.wf.b4 s;have u:=z r s;have N:=g.tb;have J:=g.bn;omega
  exact qt e.tag e.to he.2.2 h (fun r s=>(no r s).elim) (fun r s=>(no r s).elim)
 |succ t O=>
  intro e S w he h z;refine qt e.tag e.to he.2.2 h (fun r s S D E=>?_) (fun r s S D E=>?_)
  ·refine O r.lo S D (h.a'.b7 s).lo E (fun Q I=>?_);have u:=z r s;have N:=(nx h.a'.wf s (.inl rfl) I).1;push_cast at u;omega
  ·refine O r.hi S D (h.a'.b7 s).hi E (fun Q I=>?_);have u:=z r s;have N:=(nx h.a'.wf s (.inr rfl) I).1;push_cast at u;omega
def iV (w:World)(a:Option Addr)(len:Nat)(es:List Edge):Prop:=
 es.length=len∧∀i e,es[i]?=some e→e.ok∧∃b off,a=some ⟨b,off,none⟩∧w.cell? ⟨b,off+i*2,none⟩=some (.int .u8 e.tag)∧w.cell? ⟨b,off+i*2+1,none⟩=some (.int .u32 e.to)
theorem ye {F:Nat→Prop}{w:World}{sb:Nat}{M:St}(h:aq F w sb M)(a:Option Addr)(len cap:Nat)(es:List Edge)(N:iV w a len es)(al:len≤1048576) :
  Calls Tryz.prog 111 #[.pointer (some ⟨sb,0,none⟩),.slice a len cap] w fun e Q=>
   ∃b S,e=.returned (.map (some b))∧fA M.cs (es.map Edge.to) S∧Q.ownsMap Tryz.prog 50 (plainElem (H:=Unit) Tryz.prog 3) b S.length (eG S)∧S.length≤1048576∧w.heap.size≤b∧ae w Q:=by
 have I:=aa h
 have z:=aa N
 have Q:=h.lt _ h.own
 clear h N
 have N:=@run_makeMap Tryz.prog
 go_enter Tryz.func111,Tryz.ntmps111
 go_wp2
 go_loopg [13] len (fun gk i wr=>∃(d:Nat) (S:List Int),d+gk=len∧i=.int .i64 (d:Int)∧fA M.cs ((es.take d).map Edge.to) S∧cY F sb M w.heap.size (w.heap.size+2) (w.heap.size+3) (w.heap.size+1) S wr∧ae w wr)
 case atStart=>
  have t:ae w ((((w.alloc (.cells #[.pointer (some ⟨sb,0,none⟩)] 29)).alloc (.map #[] 0)).alloc (.cells #[.map (some (w.heap.size+1))] 187)).alloc (.cells #[.func (.func 177) #[] #[.pointer (some ⟨w.heap.size,0,none⟩),.pointer (some ⟨w.heap.size+1+1,0,none⟩),.pointer (some ⟨w.heap.size+1+1+1,0,none⟩)]] 248)):=kp;refine⟨0,[],by omega,rfl,fA.nil _,⟨I.out.U t,by simp[go_sem],by simp[go_sem],by simp[go_sem],fun Y=>?_,?_,by simp,by simp⟩,t⟩;·have:=I.out.lt _ Y;omega
  ·have E:=World.ownsMap_made (H:=Unit) (w.alloc (.cells #[.pointer (some ⟨sb,0,none⟩)] 29)) Tryz.prog 50 (plainElem (H:=Unit) Tryz.prog 3);rw[ak]at E;exact(E.alloc _).alloc _
 case round=>
  obtain⟨d,S,ah,rfl,I,N,t⟩:=hrel;have J:=aa I;have s:=aa N;have u:=aa t;clear I N t;have I:=u.out.size;by_cases ab:d<len
  ·obtain⟨x,O⟩:∃x,es[d]?=some x:=⟨_,aQ (by rw[z.out.1];exact ab)⟩;obtain⟨ad,b,off,rfl,I,N⟩:=z.out.2 d x O;have I:=u.out.cell I;have N:=u.out.cell N;have N:b<wr.heap.size:=aJ I;have I:=aa (s.out.U ((ae.refl wr).alloc (.cells #[.int .u8 x.tag,.int .u32 x.to] 52)));have N:=I.out.cv
   have T:=aa (Ad (17:Nat) x S _ ad I.out (fun r I=>by
    have E:=s.out.a'.wf.b0;have E:=(s.out.a'.b7 I).top.1
    omega))
   go_wp2_with fail;refine T.out.mono ?_;rintro e E ⟨rfl,X,E,N,I⟩;have U:=aa E;have W:=aa I;have V:=aa N;clear E I N;go_wp2_with fail;go_roundg (gk-1)
   case rel=>
    refine⟨d+1,S++X,by omega,by simp,?_,W.out,(u.out.alloc _).new V.out (fun k t=>by omega)⟩;have D:es.take (d+1)=es.take d++[x]:=(by rw[List.take_add_one,O];rfl);rw[D,jB];exact J.out.step U.out
   case measure=>omega
  ·have t:=s.out.cn;have Z:=s.out.cp;go_wp2;have D:es.take d=es:=fm (by have:=z.out.1;omega);go_ret;exact⟨_,S,rfl,by have:=J.out;rwa[D]at this,s.out.own,Z,by omega,u.out⟩
open Go.RowKit Go.Sort
theorem um:(Tryz.prog.info? 50).map (fun i=>(i.zero,i.size,i.bytes))=some (some (.int .u32 0),1,4):=by kernel_rfl
def na (w:World)(v:Value)(ids:List Int):Prop:=
 ∃a cap,v=.slice a ids.length cap∧∀i x,ids[i]?=some x→∃g,a=some ⟨g,0,none⟩∧w.cell? ⟨g,i,none⟩=some (.int .u32 x)
theorem xX {H:Type}{P:Program}{k:TypeId}{R:Value→Option (DataW H×List MemPlace)}{w:World}{b r n:Nat}{s:DataW H}{left:Lit→Bool}{t:Nat}(h:w.ranges P k R b r n s left t) :
  (∀cs e f,w.heap[r]?≠some (.cells cs e f))∧(∀cs e f,w.heap[b]?≠some (.cells cs e f)):=by
 obtain⟨_,_,_,_,_,u,_,_,_,z,_⟩:=h
 exact⟨fun cs e f h=>(by rw[z]at h;cases h),fun cs e f h=>(by rw[u]at h;cases h)⟩
structure gw (S:List Int)(left:Lit→Bool)(ids:List Int):Prop where
 b5:ids.Nodup
 mem:∀x,x∈ids↔(x∈S∧left (.int .u32 x)=false)
theorem gw.start (S:List Int):gw S (Maps.has (eG S)) []:=
 ⟨by simp,fun x=>by
  constructor;·intro h;simp at h
  ·rintro⟨t,s⟩;rw[(ml S x).2 t]at s
   cases s⟩
theorem gw.step {S:List Int}{left:Lit→Bool}{ids:List Int}(h:gw S left ids){x:Int}(hS:x∈S)(D:left (.int .u32 x)=true) :
  gw S (fun u=>left u&&!u.sameKey (.int .u32 x)) (ids++[x]):=by
 refine⟨List.nodup_append.2 ⟨h.b5,by simp,fun a z c s e=>?_⟩,fun y=>?_⟩
 ·rw[cZ]at s;subst e s;have:=((h.mem _).1 z).2;rw[D]at this;cases this
 ·by_cases t:y=x
  ·subst t;simp[hS,Lit.sameKey]
  ·simp[h.mem y,t,Lit.sameKey]
theorem gw.perm {S:List Int}{left:Lit→Bool}{ids:List Int}(h:gw S left ids)(hS:S.Nodup)(s:∀k,left k=false):ids.Perm S:=
 (List.perm_ext_iff_of_nodup h.b5 hS).2 fun x=>by rw[h.mem x,s];simp
theorem pw {F:Nat→Prop}{w:World}{sb:Nat}{M:St}(h:aq F w sb M)(a:Option Addr)(len cap:Nat)(es:List Edge)(ax:iV w a len es)(b3:len≤1048576) :
  Calls Tryz.prog 62 #[.pointer (some ⟨sb,0,none⟩),.slice a len cap] w fun e a2=>
   ∃v,e=.returned v∧na a2 v (bV M.cs (es.map Edge.to))∧ae w a2∧∀g,v.ownBlock=some g→w.heap.size≤g:=by
 have a':=aa (ye h a len cap es ax b3)
 have a2:=aa h
 obtain⟨ci,hi,ce,cf,ch⟩:=info_parts um
 clear h ax
 go_enter Tryz.func62,Tryz.ntmps62
 go_wp2_with fail
 refine a'.out.mono ?_
 rintro e w1 ⟨b,S,rfl,ax,a3,b3,a',a2⟩
 have Q:=aa ax
 have av:=aa a2
 clear ax a2
 go_wp2_with (first
  |(at_range;refine wpList_range_own _ rfl _ 187 rfl 50 3 (Maps.int_keyed Tryz.underlying50) Tryz.underlying187 _ b S.length _ rfl a3 ?_;intro a8 b7 z ax)
  |fail)
 go_frame
 have cc:=a3.size_le
 have b8:a8.ownsRow w.heap.size 50 1 (.slice none 0 0) 0 []:=World.ownsRow_nil _ _ _ _
 have bb:=aa (show ae w a8 from av.out.trans ⟨z.os,z.tape,z.output,z.size,fun i hi=>z.block i hi (by simp)⟩)
 go_loopg [5] (Maps.size (eG S)) (fun gk v wr=>∃(left:Lit→Bool) (ids:List Int),wr.ranges Tryz.prog 50 (plainElem (H:=Unit) Tryz.prog 3) b w1.heap.size S.length (eG S) left gk ∧
  wr.ownsRow w.heap.size 50 1 v ids.length (ids.map (Value.int .u32))∧gw S left ids∧ids.length+gk≤S.length∧(ids=[]→v=.slice none 0 0)∧ae w wr)
 case atStart=>exact⟨_,[],b7,b8,gw.start S,by simpa using cc,fun _=>rfl,bb.out⟩
 case round=>
  obtain⟨left,ids,Z,E,z,a2,ax,s⟩:=hrel;have bd:=aa ax;clear ax;have am:=aa z;have O:=aa s;clear z s;obtain⟨J,t,rfl,z⟩:=gi E
  go_wp2_with (first
   |(at_next;refine wpList_next_ranges_ii _ rfl _ rfl 50 3 .u32 .i64 (Maps.int_keyed Tryz.underlying50) Tryz.underlying50 Tryz.underlying3 b w1.heap.size S.length _ _ _ rfl Z ?_ ?_)
   |fail)
  ·intro z z;have a4:=am.out.perm Q.out.b5 z;rcases E.2 with⟨h0,z⟩|⟨g,bn,T,h0,a0,V,Y,ax,U,cd⟩
   ·have bv:ids=[]:=List.length_eq_zero_iff.1 z;subst bv;cases h0;have z:S=[]:=by have:=a4.length_eq;exact List.length_eq_zero_iff.1 (by simpa using this.symm)
    have bw:bV M.cs (es.map Edge.to)=[]:=by
     rw[List.eq_nil_iff_forall_not_mem];intro y ax;have:=(Q.out.hf y).2 (fJ.1 ax);rw[z]at this;simp at this
    go_wp2_with (go_at_call 112;refine(yU _).mono ?_;rintro e N ⟨rfl,rfl⟩)
    go_ret;refine⟨_,rfl,?_,O.out,fun g V=>by simp[Value.ownBlock]at V⟩;rw[bw];exact⟨none,0,rfl,by simp⟩
   ·cases h0
    have b0:bE wr g t ids.toArray:=by
     refine⟨T,V,by omega,by simpa using Y,fun j D=>?_⟩;have b2:j<ids.length:=(by simpa using D);have z:(T.toList.take (ids.length*1))[j]?=(ids.map (Value.int .u32))[j]?:=(by rw[cd]);rw[List.getElem?_take_of_lt (by omega),Array.getElem?_toList]at z;rw[z,getElem!_pos ids.toArray j D];simp[b2]
    have b6:0<ids.length:=by
     rcases Nat.eq_zero_or_pos ids.length with ah|ah
     ·have:=bd.out (List.length_eq_zero_iff.1 ah);cases this
     ·exact ah
    have bh:=aa (yT g t ids.length ids.toArray wr b0 (by simp) b6 (by omega));go_wp2_with fail;refine bh.out.mono ?_;rintro e N ⟨rfl,d',a5,cb,ab⟩;have X:ae w N:=O.out.new ab.upd (fun k s=>by subst s;exact a0);have a1:=yV (d:=ids.toArray) (d':=d') Q.out (by simpa using a4) (by simpa using a5) (by simpa using cb)
    have b4:(bV M.cs (es.map Edge.to)).length=ids.length:=by
     rw[←a1,Array.length_toList,a5.1];simp
    have b9:=ab.row;clear ab;go_wp2;go_ret;refine⟨.slice (some ⟨g,0,none⟩) ids.length t,rfl,⟨some ⟨g,0,none⟩,t,by rw[b4],fun j x ad=>⟨g,rfl,?_⟩⟩,X,fun g' b1=>by simp[Value.ownBlock]at b1;omega⟩;rw[←a1,Array.getElem?_toList]at ad;have D:=(Array.getElem?_eq_some_iff.1 ad).1;rw[b9.cell j D,getElem!_pos d' j D,(Array.getElem?_eq_some_iff.1 ad).2]
  ·intro x c a9 bt z z b5 ay a6 z I ca z;have a7:x∈S:=(ml S x).1 (Maps.has_true_of_atKey ay)
   have al:∀k,Value.ownBlock (.slice J ids.length t)=some k→k≠w1.heap.size∧k≠b:=by
    intro k s;obtain⟨cs,U⟩:=cU E s;obtain⟨z,D⟩:=xX Z;exact⟨fun e=>z _ _ _ (by rw[←e];exact U),fun e=>D _ _ _ (by rw[←e];exact U)⟩
   have W:ae w a9:=O.out.new (af.fD I) (fun k s=>by subst s;exact av.out.size);have z:a9.ownsRow w.heap.size 50 1 (.slice J ids.length t) ids.length (ids.map (Value.int .u32)):=(af.fD I).ca (fun k s=>(al k s).1) E;have bc:=aa W;have aw:=aa z;have ba:=aa a6;have bi:=aa a7;have D:=W.size;have D:=aa I;clear W z E Z a6 a7 ay I
   go_wp2_with (first
    |(at_builtin;refine wpList_append_own _ rfl _ _ 88 rfl w.heap.size 50 ci (.int .u32 0) 1 4 Tryz.underlying88 hi ce cf ch rfl (by decide) (.slice J ids.length t) ids.length (ids.map (Value.int .u32)) rfl (aw.out.alloc _) ⟨wr.heap.size,0,none⟩ 1 1 [.int .u32 x] rfl rfl (lC _ _ _ _ ca.symm) (by simp[Value.oneCell']) (by unfold maxLen;omega) (by omega) (by simp;omega) ?_;intro E N D z _)
    |fail)
   have be:=aa D;have u:=aa z;clear D z;go_roundg bt
   case rel=>
    have X:ae w N:=by
     refine ae.new (F:=fun k=>Value.ownBlock (.slice J ids.length t)=some k) (bc.out.alloc (.cells #[.int .u32 x] 50)) ⟨u.out.os,u.out.tape,u.out.output,u.out.size,fun k s Y=>u.out.block k s (fun e=>Y e.symm)⟩ (fun k s=>?_);rcases aw.out.2 with⟨h0,_⟩|⟨g,bn,T,h0,a0,_⟩
     ·rw[h0]at s;simp[Value.ownBlock]at s
     ·rw[h0]at s;simp[Value.ownBlock]at s;omega
    refine⟨_,ids++[x],(ba.out.alloc _).kept u.out (fun e=>(al b e.symm).2 rfl) (fun e=>(al _ e.symm).1 rfl),?_,am.out.step bi.out b5,by simp;omega,fun h=>by simp at h,X⟩;simpa using be.out
   case measure=>omega
theorem xY {F:Nat→Prop}{w:World}{sb:Nat}{M:St}(h:aq F w sb M)(a:Option Addr)(len cap:Nat)(es:List Edge)(t:iV w a len es)(u:len≤1048576) :
  Calls Tryz.prog 62 #[.pointer (some ⟨sb,0,none⟩),.slice a len cap] w fun e s=>
   ∃v,e=.returned v∧na s v (bV M.cs (es.map Edge.to))∧ae w s:=
 (pw h a len cap es t u).mono fun _ _ ⟨v,he,t,s,_⟩=>⟨v,he,t,s⟩
def one (m:Bool):Nat:=if m then 1 else 0
def fh (M:St)(f:Int)(r:Rec):Bool:=
 if f=5 then decide (r.hi.to=0)&&decide (r.lo.tag=r.top+1)
 else match look M.cs r.lo.to with
  |none=>false
  |some x=>decide (x.top=r.J+1)&&(if f=4 then decide (r.lo=r.hi)else decide (x.hi=r.hi))
noncomputable def cW (M:St)(f:Int)(e:Edge)(l:Int):Bool:=
 M.leads f e l&&(bV M.cs [e.to]).all (fun id=>!fh M f (aS (look M.cs id)))
theorem xZ {M:St}(h:M.wf){es:List Int}{d:Nat}{id:Int}(hi:(bV M.cs es)[d]?=some id):∃r,look M.cs id=some r∧jx M r∧2≤id∧id≤(M.cs.length:Int)+1:=by
 have t:=(fJ.1 (dy hi)).some;cases s:look M.cs id with
 |none=>exact absurd s t
 |some r=>
  have:=cC s;exact⟨r,rfl,h.b4 s,this.1,by omega⟩
theorem oq {s:World}{b:Nat}{e:Edge}(he:e.ok)(u:s.cell? ⟨b,0,none⟩=some (.int .u8 e.tag))(z:s.cell? ⟨b,1,none⟩=some (.int .u32 e.to)):iV s (some ⟨b,0,none⟩) 1 [e]:=by
 refine⟨rfl,fun i x t=>?_⟩;cases i with
 |zero=>simp at t;subst t;exact⟨he,b,0,rfl,u,z⟩
 |succ i=>simp at t
theorem pq {M:St}(h:M.wf)(t:M.cs.length≤1048576)(es:List Int):(bV M.cs es).length≤1048576:=by
 have s:=od M.cs.length (bV M.cs es) ((mC M.cs es).imp (fun h=>by omega)) (fun x t=>by
  have s:=(fJ.1 t).some;cases t:look M.cs x with
  |none=>exact absurd t s
  |some r=>have:=cC t;exact⟨this.1,this.2.1⟩)
 omega
theorem aq.cp {F:Nat→Prop}{w:World}{sb:Nat}{M:St}(h:aq F w sb M):M.cs.length≤1048576:=by
 obtain⟨⟨z,ib,ts,t,u,_,s,_⟩,_⟩:=h;exact s.cp
theorem bK {f:Int}{e:Edge}{l n:Int}:eH f e l n=true↔(1≤f∧f≤5∧0≤n∧n≤16∧0≤l∧l≤n∧((f≠5∨e.to=0)→e.tag=0)∧(f=5→e.to≠0→l≤e.tag∧e.tag≤n)):=by
 unfold eH bZ gd;constructor
 ·intro h;split at h;·cases h
  ·rename_i c;simp only[dL,Bool.not_eq_true',Bool.and_eq_false_iff,decide_eq_false_iff_not,cm,not_or]at c;split at h
   ·rename_i d;simp only[dL,bne_iff_ne,ne_eq,beq_iff_eq]at d;have:=eq_of_beq h;refine⟨by omega,by omega,by omega,by omega,by omega,by omega,fun _=>this,fun t h0=>?_⟩;rcases d with d|d;·exact absurd t d
    ·exact absurd d h0
   ·rename_i d;simp only[dL,bne_iff_ne,ne_eq,beq_iff_eq,not_or,Decidable.not_not]at d;simp only[cA,cm]at h;refine⟨by omega,by omega,by omega,by omega,by omega,by omega,fun s=>?_,fun _ _=>h⟩;rcases s with s|s;·exact absurd d.1 s
    ·exact absurd s d.2
 ·rintro⟨s,D,E,I,t,J,u,z⟩
  have c:¬(!(decide (1≤f)&&decide (f≤5))||!(decide (0≤n)&&decide (n≤16))||decide (l<0)||decide (n<l))=true:=by
   simp only[dL,Bool.not_eq_true',Bool.and_eq_false_iff,decide_eq_false_iff_not,cm];omega
  rw[ag c];by_cases d:f≠5∨e.to=0
  ·have d':(f != 5||e.to==0)=true:=(by simpa using d);rw[ai d'];simpa using u d
  ·have d':¬(f != 5||e.to==0)=true:=(by simpa using d);rw[ag d'];have:=z (by omega) (by omega);simpa using this
theorem bf {M:St}{f:Int}{e:Edge}{l:Int}:M.leads f e l=true↔(eH f e l M.n=true∧(e.to<2∨∃r,look M.cs e.to=some r∧r.ad=f∧l≤r.top∧e.tag≤r.top)):=by
 refine⟨iK,?_⟩;rintro⟨t,s⟩;unfold St.leads;rw[t,Bool.true_and];rcases s with s|⟨r,E,u,z,D⟩;·rw[bM s];rfl
 ·rw[E];simp[u,z,D]
theorem kx {M:St}{f:Int}{e:Edge}{l l':Int}(h:M.leads f e l=true)(h0:0≤l')(u:l'≤l):M.leads f e l'=true:=by
 obtain⟨t,s⟩:=bf.1 h;obtain⟨u,z,D,E,N,O,I,J⟩:=bK.1 t;refine bf.2 ⟨bK.2 ⟨u,z,D,E,h0,by omega,I,fun a b=>by have:=J a b;omega⟩,?_⟩;rcases s with s|⟨r,t,u,D,z⟩;·exact .inl s
 ·exact .inr ⟨r,t,u,by omega,z⟩
theorem nN {M:St}(h:M.wf){r:Rec}{id:Int}(s:look M.cs id=some r):M.bh r=0∧M.bs r=id∧M.ba r=M:=by
 have hi:=(ks h.b5 r id).1 s;unfold St.bh St.bs St.ba;rw[hi];exact⟨rfl,rfl,rfl⟩
theorem jJ {M:St}(h:M.wf){r:Rec}(t:M.b2 r=false)(I:M.len<M.a7) :
  M.bh r=0∧look (M.ba r).cs (M.bs r)=some r∧(∀id u,look M.cs id=some u→look (M.ba r).cs id=some u)∧(M.ba r).n=M.n∧(M.ba r).wf∧2≤M.bs r:=by
 cases hi:M.b9 r with
 |some id=>
  have s:=(ks h.b5 r id).2 hi;obtain⟨a,b,c⟩:=nN h s;rw[b,c];exact⟨a,s,fun _ _ h=>h,rfl,h,(cC s).1⟩
 |none=>
  have E:M.bh r=0:=by unfold St.bh;rw[hi];simp only[];rw[ag (by rw[t];simp),ag (by omega)]
  have z:M.bs r=dT M.gone M.cs.length:=by unfold St.bs;rw[hi];simp only[];rw[ag (by rw[t];simp),ag (by omega)]
  have D:M.ba r=M.add r:=by unfold St.ba;rw[hi];simp only[];rw[ag (by rw[t];simp),ag (by omega)];rfl
  refine⟨E,?_,?_,by rw[tI],h.gz r,?_⟩
  ·rw[z,D];exact(h.fl r _ _).2 (.inl ⟨rfl,rfl⟩)
  ·intro id u s;rw[D];exact(h.fl r _ _).2 (.inr s)
  ·rw[z];exact(mB h.gone).1
theorem pz {M:St}{r:Rec}(g:jx M r)(E:M.n≤16)(h0:0≤r.top)(s:r.ad=3∨r.ad=4)(I:r.J≠r.top):M.b2 ⟨r.ad,r.top+1,r.J,r.lo,r.hi⟩=false:=by
 have E:=g.tb;have E:=g.bn;have z:=(bf.1 g.lo).1;have D:=(bf.1 g.hi).1;unfold St.b2;simp only[Bool.or_eq_false_iff,Bool.not_eq_false'];refine⟨⟨?_,g.lo⟩,g.hi⟩;unfold iq bZ gd fF
 have t:¬(!(decide (1≤r.ad)&&decide (r.ad≤5))||!(decide (0≤M.n)&&decide (M.n≤16))||decide (r.J<r.top+1)||decide (M.n≤r.J)||(r.top+1 != r.J&&!(r.ad==3||r.ad==4)))=true:=by
  simp only[dL,Bool.not_eq_true',cA,Bool.and_eq_false_iff,Bool.or_eq_false_iff,decide_eq_false_iff_not,cm,beq_eq_false_iff_ne];have:=g.f1;have:=g.f5;omega
 rw[ag t,ag (by rw[z,D];simp)];rcases s with s|s
 ·rw[ag (by simp[s])];have:=g.apart (by omega) (by omega);cases he:(r.lo.tag==r.hi.tag&&r.lo.to==r.hi.to)with
  |false=>rfl
  |true=>
   simp only[cA,beq_iff_eq]at he;exact absurd (by cases u:r.lo;cases t:r.hi;rw[u,t]at he;simp at he;rw[he.1,he.2]) this
 ·rw[ai (by simp[s])];simpa using g.zero (.inr s)
theorem tG {M:St}(h:M.wf)(s:M.cs.length≤1048576)(r:Rec):0≤M.bs r∧M.bs r≤4294967295:=by
 unfold St.bs;cases hi:M.b9 r with
 |some id=>have:=cC (lU hi);simp only[];omega
 |none=>
  simp only[];have:=mB h.gone;split;·omega
  ·split<;>omega
theorem iF {M:St}(h:M.wf)(t:M.cs.length≤1048576)(s:Int)(u:0≤s∧s≤255)(r:Rec):(bN M s r).ok:=by
 unfold bN;split;·exact⟨u,tG h t r⟩
 ·exact⟨⟨by show(0:Int)≤0;omega,by show(0:Int)≤255;omega⟩,⟨by show(0:Int)≤0;omega,by show(0:Int)≤4294967295;omega⟩⟩
theorem eF:(⟨0,0⟩:Edge).ok:=⟨by decide,by decide⟩
theorem mX {M:St}(h:M.wf)(t:M.cs.length≤1048576)(z:∀id r,look M.cs id=some r→r.ok){f:Int}{e:Edge}{l:Int}(he:e.ok)(h0:0≤l)(D:l<M.n) :
  (dh M (ao M f e l)).ok∧(cF M f (ao M f e l)).ok:=by
 have D:=h.b0
 have u:(aZ f l e).1.ok∧(aZ f l e).2.1.ok:=by
  unfold aZ;split;·exact⟨he,he⟩
  ·split;·exact⟨⟨⟨by show 0≤l+1;omega,by show l+1≤255;omega⟩,he.2⟩,eF⟩
   ·exact⟨he,eF⟩
 unfold ao
 split
 ·exact⟨eF,eF⟩
 ·split;·exact⟨eF,eF⟩
  ·split;·exact⟨he,he⟩
   ·cases D:look M.cs e.to with
    |none=>exact u
    |some r=>
     have s:=z _ _ D;simp only[];split;·exact u
     ·split
      ·refine⟨iF h t 0 (by omega) _,?_⟩;show(if M.bh _=0 then(if f=4 then bN M 0 _ else _)else⟨0,0⟩:Edge).ok;split
       ·split;·exact iF h t 0 (by omega) _
        ·exact s.hi
       ·exact eF
      ·exact⟨s.lo,s.hi⟩
end Go.Proofs.YtafkamlhimkbmaaGreat
