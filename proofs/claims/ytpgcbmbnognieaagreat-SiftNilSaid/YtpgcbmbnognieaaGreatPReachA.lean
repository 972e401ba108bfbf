/-
  The walk of the closure in store.reached: what a visit of an edge's node makes of the map.
-/
import Derived.Test.YtpgcbmbnognieaaGreatPOrderB
import Derived.Test.YtpgcbmbnognieaaGreatPSortC
import Derived.Maps.RangeWalk
import Derived.Maps.OwnOps
import Derived.Laws.EntriesVeiled
namespace Go.Proofs.YtpgcbmbnognieaaGreat
set_option maxRecDepth 1000000
set_option maxHeartbeats 8000000
set_option linter.unusedSimpArgs false
set_option linter.unusedVariables false
open Go.RowKit

def marksD (S:List Int):DataW Unit:=Maps.setOf (.lit (.int .i64 1)) (S.map (Lit.int .u32))

theorem marksD_snoc (S:List Int)(x:Int):marksD (S++[x])=(marksD S).put (.int .u32 x) (.lit (.int .i64 1)):=by
 unfold marksD
 rw [List.map_append,List.map_singleton,Maps.setOf_snoc]

theorem marks_keys (S:List Int):∀ x∈S.map (Lit.int .u32),WideAt.IsKeyLit x:=by
 intro x hx
 obtain⟨y,_,rfl⟩:=List.mem_map.1 hx
 trivial

theorem marksD_has (S:List Int)(x:Int):Maps.has (marksD S) (.int .u32 x)=true↔x∈S:=by
 unfold marksD
 rw [Maps.has_setOf _ _ _ (marks_keys S),List.any_eq_true]
 constructor
 ·rintro⟨y,hy,hs⟩
  obtain⟨z,hz,rfl⟩:=List.mem_map.1 hy
  have:=WideAt.sameKey_eq hs
  cases this
  exact hz
 ·intro h
  exact⟨_,List.mem_map.2 ⟨x,h,rfl⟩,WideAt.sameKey_self trivial⟩

theorem fold_at (x:Int):∀ (S:List Int) (D:DataW Unit),Maps.IsMap D→x∈S→((S.map (Lit.int .u32)).foldl (fun m k=>m.put k (.lit (.int .i64 1))) D).atKey (.int .u32 x) (.lit (.int .i64 0))=.lit (.int .i64 1):=by
 intro S
 induction S with
 | nil=>intro D _ h;simp at h
 | cons y S ih=>
  intro D hD h
  simp only [List.map_cons,List.foldl_cons]
  by_cases hx:x∈S
  ·exact ih _ (hD.put _ _) hx
  ·have hy:x=y:=by simpa [hx] using h
   subst hy
   have:∀ (T:List Int) (D':DataW Unit),x∉T→((T.map (Lit.int .u32)).foldl (fun m k=>m.put k (.lit (.int .i64 1))) D').atKey (.int .u32 x) (.lit (.int .i64 0))=D'.atKey (.int .u32 x) (.lit (.int .i64 0)):=by
    intro T
    induction T with
    | nil=>intro D' _;rfl
    | cons z T ih2=>
     intro D' hz
     simp only [List.map_cons,List.foldl_cons]
     rw [ih2 _ (fun h=>hz (List.mem_cons_of_mem _ h))]
     exact Maps.atKey_put_other (fun e=>hz (by cases e;simp)) _ _
   rw [this S _ hx]
   exact Maps.atKey_put_same hD (show WideAt.IsKeyLit (.int .u32 x) from True.intro) _ _

theorem marksD_in {S:List Int}{x:Int}(h:x∈S):(marksD S).atKey (.int .u32 x) (.lit (.int .i64 0))=.lit (.int .i64 1):=fold_at x S _ Maps.isMap_empty h

theorem marksD_out {S:List Int}{x:Int}(h:x∉S):(marksD S).atKey (.int .u32 x) (.lit (.int .i64 0))=.lit (.int .i64 0):=by
 refine Maps.atKey_of_not_has ?_ _
 cases hh:Maps.has (marksD S) (.int .u32 x) with
 | false=>rfl
 | true=>exact absurd ((marksD_has S x).1 hh) h

theorem ids_few:∀ (n:Nat) (S:List Int),S.Nodup→(∀ x∈S,2≤x∧x-2<(n:Int))→S.length≤n:=by
 intro n
 induction n with
 | zero=>
  intro S _ h
  cases S with
  | nil=>simp
  | cons x S=>have:=h x (by simp);omega
 | succ n ih=>
  intro S hS h
  have h1:=ih (S.erase ((n:Int)+2)) (hS.erase _) (fun x hx=>by
   obtain⟨hx1,hx2⟩:=(List.Nodup.mem_erase_iff hS).1 hx
   have:=h x hx2
   omega)
  have h2:S.length≤(S.erase ((n:Int)+2)).length+1:=by
   rw [List.length_erase]
   split<;>omega
  omega

theorem zero_int (w:World):(zeroValue 3).run Tryz.prog w=.ok (.int .i64 0) w:=by kernel_rfl

structure VisitCtx (F:Nat→Prop)(sb:Nat)(M:St)(sx nb vb b:Nat)(S:List Int)(W:World):Prop where
 rep:StoreRep F W sb M
 cs:W.cell? ⟨sx,0,none⟩=some (.pointer (some ⟨sb,0,none⟩))
 cn:W.cell? ⟨nb,0,none⟩=some (.map (some b))
 cv:W.cell? ⟨vb,0,none⟩=some (.func (.func 200) #[] #[.pointer (some ⟨sx,0,none⟩),.pointer (some ⟨nb,0,none⟩),.pointer (some ⟨vb,0,none⟩)])
 nF:¬F b
 own:W.ownsMap Tryz.prog 23 (plainElem (H:=Unit) Tryz.prog 3) b S.length (marksD S)
 once:S.Nodup
 known:∀ x∈S,look M.cs x≠none

theorem VisitCtx.ne {F:Nat→Prop}{sb:Nat}{M:St}{sx nb vb b:Nat}{S:List Int}{W:World}(h:VisitCtx F sb M sx nb vb b S W):sx≠b∧nb≠b∧vb≠b:=by
 obtain⟨es,clock,hb,_⟩:=h.own
 have no:∀ (k:Nat) (v:Value),W.cell? ⟨k,0,none⟩=some v→k≠b:=by
  intro k v hv e
  subst e
  simp [World.cell?,hb] at hv
 exact⟨no _ _ h.cs,no _ _ h.cn,no _ _ h.cv⟩

theorem VisitCtx.neCell {F:Nat→Prop}{sb:Nat}{M:St}{sx nb vb b:Nat}{S:List Int}{W:World}(h:VisitCtx F sb M sx nb vb b S W){k o:Nat}{v:Value}(hv:W.cell? ⟨k,o,none⟩=some v):k≠b:=by
 obtain⟨es,clock,hb,_⟩:=h.own
 intro e
 subst e
 simp [World.cell?,hb] at hv

theorem Keeps.none {w w':World}(h:Keeps w w'):w.grownBy w' none:=⟨h.os,h.tape,h.output,h.size,fun i hi _=>h.block i hi⟩

theorem Upd.of_grown {b:Nat}{w w':World}(h:w.grownBy w' (some b)):Upd (fun k=>k=b) w w':=⟨h.os,h.tape,h.output,h.size,fun i hi hne=>h.block i hi (fun e=>hne (by cases e;rfl))⟩

theorem Upd.cellAt {F:Nat→Prop}{w w':World}(h:Upd F w w'){b o:Nat}{v:Value}(hb:¬F b)(hc:w.cell? ⟨b,o,none⟩=some v):w'.cell? ⟨b,o,none⟩=some v:=by
 have:=h.block b (lt_of_cell (a:=⟨b,o,none⟩) hc) hb
 rw [← hc]
 simp only [World.cell?,this]

theorem VisitCtx.keeps {F:Nat→Prop}{sb:Nat}{M:St}{sx nb vb b:Nat}{S:List Int}{W W':World}(h:VisitCtx F sb M sx nb vb b S W)(hk:Keeps W W'):VisitCtx F sb M sx nb vb b S W':=
 ⟨h.rep.keeps hk,hk.cell h.cs,hk.cell h.cn,hk.cell h.cv,h.nF,h.own.kept hk.none (by simp),h.once,h.known⟩

theorem VisitCtx.next {F:Nat→Prop}{sb:Nat}{M:St}{sx nb vb b:Nat}{S S':List Int}{W W':World}(h:VisitCtx F sb M sx nb vb b S W)(hu:Upd (fun k=>k=b) W W')
  (hown:W'.ownsMap Tryz.prog 23 (plainElem (H:=Unit) Tryz.prog 3) b S'.length (marksD S')) (ho:S'.Nodup) (hk:∀ x∈S',look M.cs x≠none):VisitCtx F sb M sx nb vb b S' W':=by
 obtain⟨n1,n2,n3⟩:=h.ne
 exact⟨h.rep.keep hu (fun k hk e=>h.nF (by cases e;exact hk)),hu.cellAt n1 h.cs,hu.cellAt n2 h.cn,hu.cellAt n3 h.cv,h.nF,hown,ho,hk⟩

theorem VisitCtx.mark {F:Nat→Prop}{sb:Nat}{M:St}{sx nb vb b:Nat}{S:List Int}{W W':World}(h:VisitCtx F sb M sx nb vb b S W)(hu:Upd (fun k=>k=b) W W'){id:Int}{r:Rec}
  (hown:W'.ownsMap Tryz.prog 23 (plainElem (H:=Unit) Tryz.prog 3) b (S.length+1) ((marksD S).put (.int .u32 id) (.lit (.int .i64 1)))) (hm:id∉S) (hl:look M.cs id=some r):VisitCtx F sb M sx nb vb b (S++[id]) W':=by
 refine h.next hu ?_ ?_ ?_
 ·rw [marksD_snoc,List.length_append]
  exact hown
 ·refine List.nodup_append.2 ⟨h.once,by simp,fun a ha c hc e=>?_⟩
  rw [List.mem_singleton] at hc
  subst e hc
  exact hm ha
 ·intro x hx
  rcases List.mem_append.1 hx with hx|hx
  ·exact h.known x hx
  ·rw [List.mem_singleton] at hx
   rw [hx,hl]
   simp

theorem VisitCtx.few {F:Nat→Prop}{sb:Nat}{M:St}{sx nb vb b:Nat}{S:List Int}{W:World}(h:VisitCtx F sb M sx nb vb b S W):S.length≤1048576:=by
 have h1:=ids_few M.cs.length S h.once (fun x hx=>by
  cases hl:look M.cs x with
  | none=>exact absurd hl (h.known x hx)
  | some r=>have:=look_some hl;exact⟨this.1,this.2.1⟩)
 obtain⟨⟨ab,ib,ts,Fa,Fi,_,h2,_⟩,_⟩:=h.rep
 have:=h2.few
 omega

def Visited (F:Nat→Prop)(sb:Nat)(M:St)(sx nb vb b:Nat)(id:Int)(S:List Int)(W:World)(e:Ending)(W':World):Prop:=
 e=.returned (.tuple #[])∧∃ T,Visit M.cs id S T∧Upd (fun k=>k=b) W W'∧VisitCtx F sb M sx nb vb b (S++T) W'

theorem visit_step {F:Nat→Prop}{sb:Nat}{M:St}{sx nb vb b:Nat}{S:List Int}{w:World}(t id:Int)(hid:id≤4294967295)(h:VisitCtx F sb M sx nb vb b S w)
  (hlo:∀ r,look M.cs id=some r→∀ S W,VisitCtx F sb M sx nb vb b S W→Calls Tryz.prog 200 #[.agg #[.int .u8 r.lo.tag,.int .u32 r.lo.to],.pointer (some ⟨sx,0,none⟩),.pointer (some ⟨nb,0,none⟩),.pointer (some ⟨vb,0,none⟩)] W (Visited F sb M sx nb vb b r.lo.to S W))
  (hhi:∀ r,look M.cs id=some r→∀ S W,VisitCtx F sb M sx nb vb b S W→Calls Tryz.prog 200 #[.agg #[.int .u8 r.hi.tag,.int .u32 r.hi.to],.pointer (some ⟨sx,0,none⟩),.pointer (some ⟨nb,0,none⟩),.pointer (some ⟨vb,0,none⟩)] W (Visited F sb M sx nb vb b r.hi.to S W)) :
  Calls Tryz.prog 200 #[.agg #[.int .u8 t,.int .u32 id],.pointer (some ⟨sx,0,none⟩),.pointer (some ⟨nb,0,none⟩),.pointer (some ⟨vb,0,none⟩)] w (Visited F sb M sx nb vb b id S w):=by
 have HX:=Lib.hid h
 have HLO:=Lib.hid hlo
 have HHI:=Lib.hid hhi
 have c0:=h.cs
 have hget:∃ ab,w.cell? ⟨sb,1,none⟩=some (.pointer (some ⟨ab,0,none⟩))∧∀ W,Keeps w W→Calls Tryz.prog 145 #[.pointer (some ⟨ab,0,none⟩),.int .u32 id] W fun e w'=>e=.returned (.tuple #[.agg #[.int .u8 (grec (look M.cs id)).form,.int .u8 (grec (look M.cs id)).top,.int .u8 (grec (look M.cs id)).bot,.int .u8 (grec (look M.cs id)).lo.tag,.int .u32 (grec (look M.cs id)).lo.to,.int .u8 (grec (look M.cs id)).hi.tag,.int .u32 (grec (look M.cs id)).hi.to],.bool (gsome (look M.cs id))])∧Keeps W w':=by
  obtain⟨⟨ab,ib,ts,Fa,Fi,h1,h2,-⟩,-⟩:=h.rep
  exact⟨ab,by rw [cell_of_row w sb 1 _ _ _ h1];rfl,fun W hW=>arena_get (h2.keeps hW) id hid⟩
 obtain⟨ab,c1,hget⟩:=hget
 have H:=Lib.hid hget
 have hsx:=lt_of_cell c0
 have hsb:=lt_of_cell c1
 dsimp only at hsx hsb
 have hn1:w.heap.size≠sx:=by omega
 have hn2:w.heap.size≠sb:=by omega
 have hn3:w.heap.size+1≠sx:=by omega
 have hn4:w.heap.size+1≠sb:=by omega
 clear h hlo hhi hget
 obtain⟨x,hx⟩:∃ x,x=grec (look M.cs id):=⟨_,rfl⟩
 obtain⟨ok,hok⟩:∃ ok,ok=gsome (look M.cs id):=⟨_,rfl⟩
 rw [← hx,← hok] at H
 have HOK:=Lib.hid hok
 have HXE:=Lib.hid hx
 clear hx hok
 go_enter Tryz.func200,Tryz.ntmps200
 go_upto_region 1 with fail
 go_cut [5,6] (fun s5 s6 wx=>∃ B,s5=.pointer (some ⟨B,0,none⟩)∧s6=.bool ok∧wx.cell? ⟨B,3,none⟩=some (.int .u8 x.lo.tag)∧wx.cell? ⟨B,4,none⟩=some (.int .u32 x.lo.to)∧wx.cell? ⟨B,5,none⟩=some (.int .u8 x.hi.tag)∧wx.cell? ⟨B,6,none⟩=some (.int .u32 x.hi.to) ∧
  wx.cell? ⟨w.heap.size,0,none⟩=some (.int .u8 t)∧wx.cell? ⟨w.heap.size,1,none⟩=some (.int .u32 id)∧Keeps w wx)
 case first=>
  go_region_held3 (fun w'=>w'.cell? ⟨sx,0,none⟩=some (.pointer (some ⟨sb,0,none⟩))∧w'.cell? ⟨sb,1,none⟩=some (.pointer (some ⟨ab,0,none⟩))∧w'.cell? ⟨w.heap.size,1,none⟩=some (.int .u32 id)) (go_keep) ((first|(go_at_call 145;refine(H.out _ (by(exact kp))).mono ?_;rintro e w1 ⟨rfl,hb⟩;obtain⟨hc,hf⟩:=hb.cells;have hwb:Keeps (w.alloc (.cells #[.int .u8 t,.int .u32 id] 25)) w1:=(by(exact kp));have k2:Keeps w w1:=(((Keeps.refl _).alloc _).trans hwb);have z0:w1.cell? ⟨w.heap.size,0,none⟩=some (.int .u8 t):=hwb.cell (by simp);have z1:w1.cell? ⟨w.heap.size,1,none⟩=some (.int .u32 id):=hwb.cell (by simp);have y0:=k2.cell c0;have y1:=k2.cell c1;have hsz:=hwb.size;simp only [World.size_alloc] at hsz;have hn4:w1.heap.size≠sb:=(by omega);have hn5:w1.heap.size≠w.heap.size:=(by omega);have hn6:w1.heap.size≠sx:=(by omega);have hz6:w.heap.size<w1.heap.size:=(by omega))))
  all_goals(try go_wp2_with fail)
  all_goals go_meet
  all_goals first
   | exact⟨w1.heap.size,rfl,rfl,by simp [go_sem],by simp [go_sem],by simp [go_sem],by simp [go_sem],by simp [go_sem,hz6,z0],by simp [go_sem,hz6,z1],by(exact kp)⟩
   | (have q3:=hb.cell (a:=⟨w.heap.size+1,3,none⟩) (v:=.int .u8 0) (by simp [go_sem])
      have q4:=hb.cell (a:=⟨w.heap.size+1,4,none⟩) (v:=.int .u32 0) (by simp [go_sem])
      have q5:=hb.cell (a:=⟨w.heap.size+1,5,none⟩) (v:=.int .u8 0) (by simp [go_sem])
      have q6:=hb.cell (a:=⟨w.heap.size+1,6,none⟩) (v:=.int .u32 0) (by simp [go_sem])
      exact⟨w.heap.size+1,rfl,rfl,by simp [go_sem,q3],by simp [go_sem,q4],by simp [go_sem,q5],by simp [go_sem,q6],by simp [go_sem,z0],by simp [go_sem,z1],by(exact kp)⟩)
 case rest=>
  obtain⟨B,rfl,rfl,d3,d4,d5,d6,e0,e1,hk⟩:=hcut
  have HX1:=Lib.hid (HX.out.keeps hk)
  have HK:=Lib.hid hk
  have f0:=HX1.out.cn
  clear hk
  cases hl:look M.cs id with
  | none=>
   have ho:ok=false:=by rw [HOK.out,hl];rfl
   subst ho
   go_wp2
   first|go_end0|refine bodyPost_ret (results_none rfl _ _ _) rfl ?_
   exact⟨rfl,[],Visit.none hl,Keeps.upd HK.out _,by simpa using HX1.out⟩
  | some r=>
   have ho:ok=true:=by rw [HOK.out,hl];rfl
   have hxr:x=r:=by rw [HXE.out,hl];rfl
   subst ho
   subst hxr
   have hrange:=look_some hl
   have hfew:M.cs.length≤1048576:=by
    obtain⟨⟨_,_,_,_,_,_,h2,_⟩,_⟩:=HX.out.rep
    exact h2.few
   have hwf:(Lit.int .u32 id).wf=true:=by obtain⟨hr1,hr2,_⟩:=hrange;simp [Lit.wf,show IntKind.u32.min=0 from rfl,show IntKind.u32.max=4294967295 from rfl];omega
   have hkey:=Maps.keyOf_int_mk Tryz.underlying23 hwf
   obtain⟨c,hrun,hat,-⟩:=HX1.out.own.lookup_int (Maps.int_keyed Tryz.underlying23) Tryz.underlying220 Tryz.underlying3 (zero_int _) hkey
   by_cases hm:id∈S
   ·rw [marksD_in hm] at hat
    cases hat
    go_wp2
    first|go_end0|refine bodyPost_ret (results_none rfl _ _ _) rfl ?_
    exact⟨rfl,[],Visit.met hm,Keeps.upd HK.out _,by simpa using HX1.out⟩
   ·rw [marksD_out hm] at hat
    cases hat
    have hlt:S.length<maxLen:=by have:=HX1.out.few;unfold maxLen;omega
    have nB:B≠b:=HX1.out.neCell d3
    have nE:w.heap.size≠b:=HX1.out.neCell e0
    go_wp2_with (first|(at_mapUpdate;refine wpList_mapUpdate_own _ rfl _ _ _ 220 rfl 23 3 (Maps.int_keyed Tryz.underlying23) Tryz.underlying220 _ b S.length _ rfl HX1.out.own hlt _ _ (.int .u32 id) rfl rfl hkey (.lit (.int .i64 1)) [] (plainElem_int Tryz.underlying3 (by decide)) ?_;intro w3 hown3 hg3;have hu3:=Lib.hid (Upd.of_grown hg3);have HX3:=Lib.hid (HX1.out.mark hu3.out hown3 hm hl);have j3:=hu3.out.cellAt nB d3;have j4:=hu3.out.cellAt nB d4;have j5:=hu3.out.cellAt nB d5;have j6:=hu3.out.cellAt nB d6;have jv:=HX3.out.cv;clear hown3 hg3)|fail)
    refine(HLO.out x hl _ w3 HX3.out).mono ?_
    rintro e w4 ⟨rfl,T,hT,hu4,hX4⟩
    have HT:=Lib.hid hT
    have hu4:=Lib.hid hu4
    have HX4:=Lib.hid hX4
    have j5:=hu4.out.cellAt nB j5
    have j6:=hu4.out.cellAt nB j6
    have jv:=HX4.out.cv
    clear hT hX4 j3 j4
    go_wp2_with fail
    refine(HHI.out x hl _ w4 HX4.out).mono ?_
    rintro e w5 ⟨rfl,U,hU,hu5,hX5⟩
    have HU:=Lib.hid hU
    have hu5:=Lib.hid hu5
    have HX5:=Lib.hid hX5
    clear hU hX5
    go_wp2
    first|go_end0|refine bodyPost_ret (results_none rfl _ _ _) rfl ?_
    refine⟨rfl,id::(T++U),Visit.both hl hm HT.out HU.out,(((Keeps.upd HK.out _).trans' hu3.out).trans' hu4.out).trans' hu5.out,?_⟩
    have:=HX5.out
    simpa using this

theorem visit_calls {F:Nat→Prop}{sb:Nat}{M:St}{sx nb vb b:Nat}:∀ (N:Nat) (e:Edge) (S:List Int) (w:World),e.ok→VisitCtx F sb M sx nb vb b S w→(∀ r,look M.cs e.to=some r→M.n-r.top<(N:Int)) →
  Calls Tryz.prog 200 #[.agg #[.int .u8 e.tag,.int .u32 e.to],.pointer (some ⟨sx,0,none⟩),.pointer (some ⟨nb,0,none⟩),.pointer (some ⟨vb,0,none⟩)] w (Visited F sb M sx nb vb b e.to S w):=by
 intro N
 induction N with
 | zero=>
  intro e S w he h hN
  have no:∀ r,look M.cs e.to=some r→False:=fun r hr=>by
   have g:=h.rep.wf.goodRec hr
   have h1:=hN r hr
   have h2:=g.tb
   have h3:=g.bn
   omega
  exact visit_step e.tag e.to he.2.2 h (fun r hr=>(no r hr).elim) (fun r hr=>(no r hr).elim)
 | succ N ih=>
  intro e S w he h hN
  refine visit_step e.tag e.to he.2.2 h (fun r hr S W hW=>?_) (fun r hr S W hW=>?_)
  ·refine ih r.lo S W (h.rep.fit hr).lo hW (fun r' hr'=>?_)
   have h1:=hN r hr
   have h2:=(child_top h.rep.wf hr (.inl rfl) hr').1
   push_cast at h1
   omega
  ·refine ih r.hi S W (h.rep.fit hr).hi hW (fun r' hr'=>?_)
   have h1:=hN r hr
   have h2:=(child_top h.rep.wf hr (.inr rfl) hr').1
   push_cast at h1
   omega

def IsEdges (w:World)(a:Option Addr)(len:Nat)(es:List Edge):Prop:=
 es.length=len∧∀ i e,es[i]?=some e→e.ok∧∃ b off,a=some ⟨b,off,none⟩∧w.cell? ⟨b,off+i*2,none⟩=some (.int .u8 e.tag)∧w.cell? ⟨b,off+i*2+1,none⟩=some (.int .u32 e.to)

theorem reached_calls {F:Nat→Prop}{w:World}{sb:Nat}{M:St}(h:StoreRep F w sb M)(a:Option Addr)(len cap:Nat)(es:List Edge)(hes:IsEdges w a len es)(hlen:len≤1048576) :
  Calls Tryz.prog 148 #[.pointer (some ⟨sb,0,none⟩),.slice a len cap] w fun e w'=>
   ∃ b S,e=.returned (.map (some b))∧Visits M.cs (es.map Edge.to) S∧w'.ownsMap Tryz.prog 23 (plainElem (H:=Unit) Tryz.prog 3) b S.length (marksD S)∧S.length≤1048576∧w.heap.size≤b∧Keeps w w':=by
 have HR:=Lib.hid h
 have HE:=Lib.hid hes
 have hsb:=h.lt _ h.own
 clear h hes
 have hmm:=@run_makeMap Tryz.prog
 go_enter Tryz.func148,Tryz.ntmps148
 go_wp2
 go_loopg [13] len (fun gk i wr=>∃ (d:Nat) (S:List Int),d+gk=len∧i=.int .i64 (d:Int)∧Visits M.cs ((es.take d).map Edge.to) S∧VisitCtx F sb M w.heap.size (w.heap.size+2) (w.heap.size+3) (w.heap.size+1) S wr∧Keeps w wr)
 case atStart=>
  have hk:Keeps w ((((w.alloc (.cells #[.pointer (some ⟨sb,0,none⟩)] 28)).alloc (.map #[] 0)).alloc (.cells #[.map (some (w.heap.size+1))] 220)).alloc (.cells #[.func (.func 200) #[] #[.pointer (some ⟨w.heap.size,0,none⟩),.pointer (some ⟨w.heap.size+1+1,0,none⟩),.pointer (some ⟨w.heap.size+1+1+1,0,none⟩)]] 277)):=by(exact kp)
  refine⟨0,[],by omega,rfl,Visits.nil _,⟨HR.out.keeps hk,by simp [go_sem],by simp [go_sem],by simp [go_sem],fun hf=>?_,?_,by simp,by simp⟩,hk⟩
  ·have:=HR.out.lt _ hf;omega
  ·have h1:=World.ownsMap_made (H:=Unit) (w.alloc (.cells #[.pointer (some ⟨sb,0,none⟩)] 28)) Tryz.prog 23 (plainElem (H:=Unit) Tryz.prog 3)
   rw [World.size_alloc] at h1
   exact(h1.alloc _).alloc _
 case round=>
  obtain⟨d,S,hd,rfl,hV,hX,hk⟩:=hrel
  have HV:=Lib.hid hV
  have HX:=Lib.hid hX
  have HK:=Lib.hid hk
  clear hV hX hk
  have hsz:=HK.out.size
  by_cases hlt:d<len
  ·obtain⟨x,hx⟩:∃ x,es[d]?=some x:=⟨_,List.getElem?_eq_getElem (by rw [HE.out.1];exact hlt)⟩
   obtain⟨hok,b,off,rfl,t0,t1⟩:=HE.out.2 d x hx
   have t0:=HK.out.cell t0
   have t1:=HK.out.cell t1
   have hb0:b<wr.heap.size:=lt_of_cell t0
   have HX1:=Lib.hid (HX.out.keeps ((Keeps.refl wr).alloc (.cells #[.int .u8 x.tag,.int .u32 x.to] 25)))
   have cv:=HX1.out.cv
   have HC:=Lib.hid (visit_calls (17:Nat) x S _ hok HX1.out (fun r hr=>by
    have h1:=HX.out.rep.wf.n16
    have h2:=(HX.out.rep.fit hr).top.1
    omega))
   go_wp2_with fail
   refine HC.out.mono ?_
   rintro e w2 ⟨rfl,T,hT,hu,hX2⟩
   have HT:=Lib.hid hT
   have HX2:=Lib.hid hX2
   have HU:=Lib.hid hu
   clear hT hX2 hu
   go_wp2_with fail
   go_roundg (gk-1)
   case rel=>
    refine⟨d+1,S++T,by omega,by simp,?_,HX2.out,(HK.out.alloc _).new HU.out (fun k hk=>by omega)⟩
    have e1:es.take (d+1)=es.take d++[x]:=by rw [List.take_add_one,hx];rfl
    rw [e1,List.map_append]
    exact HV.out.step HT.out
   case measure=>omega
  ·have cn:=HX.out.cn
   have hfew:=HX.out.few
   go_wp2
   have e1:es.take d=es:=List.take_of_length_le (by have:=HE.out.1;omega)
   go_ret
   exact⟨_,S,rfl,by have:=HV.out;rwa [e1] at this,HX.out.own,hfew,by omega,HK.out⟩

open Go.RowKit Go.Sort

theorem info_u32:(Tryz.prog.info? 23).map (fun i=>(i.zero,i.size,i.bytes))=some (some (.int .u32 0),1,4):=by kernel_rfl

def IdRow (w:World)(v:Value)(ids:List Int):Prop:=
 ∃ a cap,v=.slice a ids.length cap∧∀ i x,ids[i]?=some x→∃ g,a=some ⟨g,0,none⟩∧w.cell? ⟨g,i,none⟩=some (.int .u32 x)

theorem ranges_iter {H:Type}{P:Program}{k:TypeId}{R:Value→Option (DataW H×List MemPlace)}{w:World}{b r n:Nat}{D:DataW H}{left:Lit→Bool}{cnt:Nat}(h:w.ranges P k R b r n D left cnt) :
  (∀ cs e f,w.heap[r]?≠some (.cells cs e f))∧(∀ cs e f,w.heap[b]?≠some (.cells cs e f)):=by
 obtain⟨_,_,_,_,_,hb,_,_,_,hit,_⟩:=h
 exact⟨fun cs e f h=>(by rw [hit] at h;cases h),fun cs e f h=>(by rw [hb] at h;cases h)⟩

structure Gathered (S:List Int)(left:Lit→Bool)(ids:List Int):Prop where
 once:ids.Nodup
 mem:∀ x,x∈ids↔(x∈S∧left (.int .u32 x)=false)

theorem Gathered.start (S:List Int):Gathered S (Maps.has (marksD S)) []:=
 ⟨by simp,fun x=>by
  constructor
  ·intro h;simp at h
  ·rintro⟨h1,h2⟩
   rw [(marksD_has S x).2 h1] at h2
   cases h2⟩

theorem Gathered.step {S:List Int}{left:Lit→Bool}{ids:List Int}(h:Gathered S left ids){x:Int}(hS:x∈S)(hl:left (.int .u32 x)=true) :
  Gathered S (fun z=>left z&&!z.sameKey (.int .u32 x)) (ids++[x]):=by
 refine⟨List.nodup_append.2 ⟨h.once,by simp,fun a ha c hc e=>?_⟩,fun y=>?_⟩
 ·rw [List.mem_singleton] at hc
  subst e hc
  have:=((h.mem _).1 ha).2
  rw [hl] at this
  cases this
 ·by_cases hy:y=x
  ·subst hy
   simp [hS,Lit.sameKey]
  ·simp [h.mem y,hy,Lit.sameKey]

theorem Gathered.perm {S:List Int}{left:Lit→Bool}{ids:List Int}(h:Gathered S left ids)(hS:S.Nodup)(hl:∀ k,left k=false):ids.Perm S:=
 (List.perm_ext_iff_of_nodup h.once hS).2 fun x=>by rw [h.mem x,hl];simp

theorem reach_calls2 {F:Nat→Prop}{w:World}{sb:Nat}{M:St}(h:StoreRep F w sb M)(a:Option Addr)(len cap:Nat)(es:List Edge)(hes:IsEdges w a len es)(hlen:len≤1048576) :
  Calls Tryz.prog 84 #[.pointer (some ⟨sb,0,none⟩),.slice a len cap] w fun e w'=>
   ∃ v,e=.returned v∧IdRow w' v (reachL M.cs (es.map Edge.to))∧Keeps w w'∧∀ g,v.ownBlock=some g→w.heap.size≤g:=by
 have HC:=Lib.hid (reached_calls h a len cap es hes hlen)
 have HR:=Lib.hid h
 obtain⟨i0,hi,hz0,hz1,hz2⟩:=info_parts info_u32
 clear h hes
 go_enter Tryz.func84,Tryz.ntmps84
 go_wp2_with fail
 refine HC.out.mono ?_
 rintro e w1 ⟨b,S,rfl,hV,hown,hfew,hb,hk1⟩
 have HV:=Lib.hid hV
 have HK1:=Lib.hid hk1
 clear hV hk1
 go_wp2_with (first
  | (at_range;refine wpList_range_own _ rfl _ 220 rfl 23 3 (Maps.int_keyed Tryz.underlying23) Tryz.underlying220 _ b S.length _ rfl hown ?_;intro w0 hrg0 hg0 hs0)
  | fail)
 go_frame
 have hsize:=hown.size_le
 have hrow0:w0.ownsRow w.heap.size 23 1 (.slice none 0 0) 0 []:=World.ownsRow_nil _ _ _ _
 have HK0:=Lib.hid (show Keeps w w0 from HK1.out.trans ⟨hg0.os,hg0.tape,hg0.output,hg0.size,fun i hi=>hg0.block i hi (by simp)⟩)
 go_loopg [5] (Maps.size (marksD S)) (fun gk v wr=>∃ (left:Lit→Bool) (ids:List Int),wr.ranges Tryz.prog 23 (plainElem (H:=Unit) Tryz.prog 3) b w1.heap.size S.length (marksD S) left gk ∧
  wr.ownsRow w.heap.size 23 1 v ids.length (ids.map (Value.int .u32))∧Gathered S left ids∧ids.length+gk≤S.length∧(ids=[]→v=.slice none 0 0)∧Keeps w wr)
 case atStart=>exact⟨_,[],hrg0,hrow0,Gathered.start S,by simpa using hsize,fun _=>rfl,HK0.out⟩
 case round=>
  obtain⟨left,ids,hrg,hrow,hG,hlen2,hnil,hk⟩:=hrel
  have HN:=Lib.hid hnil
  clear hnil
  have HG:=Lib.hid hG
  have HK:=Lib.hid hk
  clear hG hk
  obtain⟨va,vcap,rfl,hva⟩:=owns_slice hrow
  go_wp2_with (first
   | (at_next;refine wpList_next_ranges_ii _ rfl _ rfl 23 3 .u32 .i64 (Maps.int_keyed Tryz.underlying23) Tryz.underlying23 Tryz.underlying3 b w1.heap.size S.length _ _ _ rfl hrg ?_ ?_)
   | fail)
  ·intro hc0 hl0
   have hp:=HG.out.perm HV.out.once hl0
   rcases hrow.2 with⟨h0,hn0⟩|⟨g,cap',cur,h0,hbg,hg,hn,hcm,hcs,htake⟩
   ·have e0:ids=[]:=List.length_eq_zero_iff.1 hn0
    subst e0
    cases h0
    have eS:S=[]:=by have:=hp.length_eq;exact List.length_eq_zero_iff.1 (by simpa using this.symm)
    have eR:reachL M.cs (es.map Edge.to)=[]:=by
     rw [List.eq_nil_iff_forall_not_mem]
     intro y hy
     have:=(HV.out.iff y).2 (mem_reachL.1 hy)
     rw [eS] at this
     simp at this
    go_wp2_with (go_at_call 149;refine(sort_nil _).mono ?_;rintro e w3 ⟨rfl,rfl⟩)
    go_ret
    refine⟨_,rfl,?_,HK.out,fun g hg=>by simp [Value.ownBlock] at hg⟩
    rw [eR]
    exact⟨none,0,rfl,by simp⟩
   ·cases h0
    have hR:RowAt wr g vcap ids.toArray:=by
     refine⟨cur,hg,by omega,by simpa using hn,fun j hj=>?_⟩
     have hj':j<ids.length:=by simpa using hj
     have h1:(cur.toList.take (ids.length*1))[j]?=(ids.map (Value.int .u32))[j]?:=by rw [htake]
     rw [List.getElem?_take_of_lt (by omega),Array.getElem?_toList] at h1
     rw [h1,getElem!_pos ids.toArray j hj]
     simp [hj']
    have hpos:0<ids.length:=by
     rcases Nat.eq_zero_or_pos ids.length with hz|hz
     ·have:=HN.out (List.length_eq_zero_iff.1 hz)
      cases this
     ·exact hz
    have HS:=Lib.hid (sort_calls g vcap ids.length ids.toArray wr hR (by simp) hpos (by omega))
    go_wp2_with fail
    refine HS.out.mono ?_
    rintro e w3 ⟨rfl,d',hpi,hsi,hsr⟩
    have hk3:Keeps w w3:=HK.out.new hsr.upd (fun k hk=>by subst hk;exact hbg)
    have hd:=sorted_reachL (d:=ids.toArray) (d':=d') HV.out (by simpa using hp) (by simpa using hpi) (by simpa using hsi)
    have hlenr:(reachL M.cs (es.map Edge.to)).length=ids.length:=by
     rw [← hd,Array.length_toList,hpi.1]
     simp
    have hrow3:=hsr.row
    clear hsr
    go_wp2
    go_ret
    refine⟨.slice (some ⟨g,0,none⟩) ids.length vcap,rfl,⟨some ⟨g,0,none⟩,vcap,by rw [hlenr],fun j x hx=>⟨g,rfl,?_⟩⟩,hk3,fun g' hg'=>by simp [Value.ownBlock] at hg';omega⟩
    rw [← hd,Array.getElem?_toList] at hx
    have hj:=(Array.getElem?_eq_some_iff.1 hx).1
    rw [hrow3.cell j hj,getElem!_pos d' j hj,(Array.getElem?_eq_some_iff.1 hx).2]
  ·intro x c w2 cnt1 hwx hwc hlx hat hrg1 hlt hg1 hs1 hen
   have hxS:x∈S:=(marksD_has S x).1 (Maps.has_true_of_atKey hat)
   have nr:∀ k,Value.ownBlock (.slice va ids.length vcap)=some k→k≠w1.heap.size∧k≠b:=by
    intro k hk
    obtain⟨cs,hcs⟩:=owns_type hrow hk
    obtain⟨n1,n2⟩:=ranges_iter hrg
    exact⟨fun e=>n1 _ _ _ (by rw [← e];exact hcs),fun e=>n2 _ _ _ (by rw [← e];exact hcs)⟩
   have hk2:Keeps w w2:=HK.out.new (Upd.of_grown hg1) (fun k hk=>by subst hk;exact HK1.out.size)
   have hrow2:w2.ownsRow w.heap.size 23 1 (.slice va ids.length vcap) ids.length (ids.map (Value.int .u32)):=(Upd.of_grown hg1).owns (fun k hk=>(nr k hk).1) hrow
   have HK2:=Lib.hid hk2
   have HR2:=Lib.hid hrow2
   have HG2:=Lib.hid hrg1
   have HXS:=Lib.hid hxS
   have hs2:=hk2.size
   have HG1:=Lib.hid hg1
   clear hk2 hrow2 hrow hrg hrg1 hxS hat hg1
   go_wp2_with (first
    | (at_builtin;refine wpList_append_own _ rfl _ _ 108 rfl w.heap.size 23 i0 (.int .u32 0) 1 4 Tryz.underlying108 hi hz0 hz1 hz2 rfl (by decide) (.slice va ids.length vcap) ids.length (ids.map (Value.int .u32)) rfl (HR2.out.alloc _) ⟨wr.heap.size,0,none⟩ 1 1 [.int .u32 x] rfl rfl (cell_new _ _ _ _ hs1.symm) (by simp [Value.oneCell']) (by unfold maxLen;omega) (by omega) (by simp;omega) ?_;intro v' w3 hown3 hg3 _)
    | fail)
   have HO3:=Lib.hid hown3
   have HU3:=Lib.hid hg3
   clear hown3 hg3
   go_roundg cnt1
   case rel=>
    have hk3:Keeps w w3:=by
     refine Keeps.new (F:=fun k=>Value.ownBlock (.slice va ids.length vcap)=some k) (HK2.out.alloc (.cells #[.int .u32 x] 23)) ⟨HU3.out.os,HU3.out.tape,HU3.out.output,HU3.out.size,fun k hk hn=>HU3.out.block k hk (fun e=>hn e.symm)⟩ (fun k hk=>?_)
     rcases HR2.out.2 with⟨h0,_⟩|⟨g,cap',cur,h0,hbg,_⟩
     ·rw [h0] at hk;simp [Value.ownBlock] at hk
     ·rw [h0] at hk;simp [Value.ownBlock] at hk;omega
    refine⟨_,ids++[x],(HG2.out.alloc _).kept HU3.out (fun e=>(nr b e.symm).2 rfl) (fun e=>(nr _ e.symm).1 rfl),?_,HG.out.step HXS.out hlx,by simp;omega,fun h=>by simp at h,hk3⟩
    simpa using HO3.out
   case measure=>omega

theorem reach_calls {F:Nat→Prop}{w:World}{sb:Nat}{M:St}(h:StoreRep F w sb M)(a:Option Addr)(len cap:Nat)(es:List Edge)(hes:IsEdges w a len es)(hlen:len≤1048576) :
  Calls Tryz.prog 84 #[.pointer (some ⟨sb,0,none⟩),.slice a len cap] w fun e w'=>
   ∃ v,e=.returned v∧IdRow w' v (reachL M.cs (es.map Edge.to))∧Keeps w w':=
 (reach_calls2 h a len cap es hes hlen).mono fun _ _ ⟨v,he,hr,hk,_⟩=>⟨v,he,hr,hk⟩

end Go.Proofs.YtpgcbmbnognieaaGreat
