/-
  The walk of the closure in store.reached: what a visit of an edge's node makes of the map.
-/
import Derived.Test.YtafkamlhimkbmaaGreatPOrderB
import Derived.Test.YtafkamlhimkbmaaGreatPSortS
import Derived.Maps.RangeWalk
import Derived.Maps.OwnOps
import Derived.Laws.EntriesVeiled
namespace Go.Proofs.YtafkamlhimkbmaaGreat
set_option maxRecDepth 1000000
set_option maxHeartbeats 8000000
set_option linter.unusedSimpArgs false
set_option linter.unusedVariables false
open Go.RowKit

def dE (j:List Int):DataW Unit:=Maps.setOf (.lit (.int .i64 1)) (j.map (Lit.int .u32))

theorem xJ (j:List Int)(x:Int):dE (j++[x])=(dE j).put (.int .u32 x) (.lit (.int .i64 1)):=by
 unfold dE;rw[List.map_append,List.map_singleton,Maps.setOf_snoc]

theorem xK (j:List Int):∀x∈j.map (Lit.int .u32),WideAt.IsKeyLit x:=by
 intro x q;obtain⟨y,_,rfl⟩:=List.mem_map.1 q;trivial

theorem kM (j:List Int)(x:Int):Maps.has (dE j) (.int .u32 x)=true↔x∈j:=by
 unfold dE;rw[Maps.has_setOf _ _ _ (xK j),List.any_eq_true];constructor
 ·rintro⟨y,s,q⟩;obtain⟨z,t,rfl⟩:=List.mem_map.1 s;have:=WideAt.sameKey_eq q;cases this;exact t
 ·intro h;exact⟨_,List.mem_map.2 ⟨x,h,rfl⟩,WideAt.sameKey_self trivial⟩

theorem vD (x:Int):∀(j:List Int) (D:DataW Unit),Maps.IsMap D→x∈j→((j.map (Lit.int .u32)).foldl (fun m k=>m.put k (.lit (.int .i64 1))) D).atKey (.int .u32 x) (.lit (.int .i64 0))=.lit (.int .i64 1):=by
 intro j;induction j with
 |nil=>intro D _ h;simp at h
 |cons y j I=>
  intro D z h;simp only[List.map_cons,List.foldl_cons];by_cases t:x∈j;·exact I _ (z.put _ _) t
  ·have E:x=y:=(by simpa[t]using h);subst E
   have:∀(q:List Int) (s:DataW Unit),x∉q→((q.map (Lit.int .u32)).foldl (fun m k=>m.put k (.lit (.int .i64 1))) s).atKey (.int .u32 x) (.lit (.int .i64 0))=s.atKey (.int .u32 x) (.lit (.int .i64 0)):=by
    intro q;induction q with
    |nil=>intro s _;rfl
    |cons E q J=>
     intro s A;simp only[List.map_cons,List.foldl_cons];rw[J _ (fun h=>A (List.mem_cons_of_mem _ h))];exact Maps.atKey_put_other (fun e=>A (by cases e;simp)) _ _
   rw[this j _ t];exact Maps.atKey_put_same z (show WideAt.IsKeyLit (.int .u32 x)from True.intro) _ _

theorem qe {j:List Int}{x:Int}(h:x∈j):(dE j).atKey (.int .u32 x) (.lit (.int .i64 0))=.lit (.int .i64 1):=vD x j _ Maps.isMap_empty h

theorem qf {j:List Int}{x:Int}(h:x∉j):(dE j).atKey (.int .u32 x) (.lit (.int .i64 0))=.lit (.int .i64 0):=by
 refine Maps.atKey_of_not_has ?_ _;cases q:Maps.has (dE j) (.int .u32 x)with
 |false=>rfl
 |true=>exact absurd ((kM j x).1 q) h

theorem pz:∀(n:Nat) (j:List Int),j.Nodup→(∀x∈j,2≤x∧x-2<(n:Int))→j.length≤n:=by
 intro n;induction n with
 |zero=>
  intro j _ h;cases j with
  |nil=>simp
  |cons x j=>have:=h x (by simp);omega
 |succ n s=>
  intro j hS h
  have t:=s (j.erase ((n:Int)+2)) (hS.erase _) (fun x q=>by
   obtain⟨t,s⟩:=(List.Nodup.mem_erase_iff hS).1 q;have:=h x s
   omega)
  have q:j.length≤(j.erase ((n:Int)+2)).length+1:=by
   rw[List.length_erase];split<;>omega
  omega

theorem sm (w:World):(zeroValue 3).run Tryz.prog w=.ok (.int .i64 0) w:=by kernel_rfl

structure cY (F:Nat→Prop)(sb:Nat)(M:St)(sx nb vb b:Nat)(S:List Int)(W:World):Prop where
 a4:ag F W sb M
 cs:W.cell? ⟨sx,0,none⟩=some (.pointer (some ⟨sb,0,none⟩))
 cn:W.cell? ⟨nb,0,none⟩=some (.map (some b))
 cv:W.cell? ⟨vb,0,none⟩=some (.func (.func 177) #[] #[.pointer (some ⟨sx,0,none⟩),.pointer (some ⟨nb,0,none⟩),.pointer (some ⟨vb,0,none⟩)])
 nF:¬F b
 own:W.ownsMap Tryz.prog 50 (plainElem (H:=Unit) Tryz.prog 3) b S.length (dE S)
 b2:S.Nodup
 g4:∀x∈S,look M.cs x≠none

theorem cY.ne {F:Nat→Prop}{E:Nat}{M:St}{s q vb b:Nat}{t:List Int}{j:World}(h:cY F E M s q vb b t j):s≠b∧q≠b∧vb≠b:=by
 obtain⟨es,clock,z,_⟩:=h.own
 have no:∀(k:Nat) (v:Value),j.cell? ⟨k,0,none⟩=some v→k≠b:=by
  intro k v A e;subst e;simp[World.cell?,z]at A
 exact⟨no _ _ h.cs,no _ _ h.cn,no _ _ h.cv⟩

theorem cY.cS {F:Nat→Prop}{A:Nat}{M:St}{E z vb b:Nat}{q:List Int}{j:World}(h:cY F A M E z vb b q j){k o:Nat}{v:Value}(t:j.cell? ⟨k,o,none⟩=some v):k≠b:=by
 obtain⟨es,clock,s,_⟩:=h.own;intro e;subst e;simp[World.cell?,s]at t

theorem aa.none {w w':World}(h:aa w w'):w.grownBy w' none:=⟨h.os,h.tape,h.output,h.size,fun i hi _=>h.block i hi⟩

theorem ae.e0 {b:Nat}{w w':World}(h:w.grownBy w' (some b)):ae (fun k=>k=b) w w':=⟨h.os,h.tape,h.output,h.size,fun i hi j=>h.block i hi (fun e=>j (by cases e;rfl))⟩

theorem ae.cellAt {F:Nat→Prop}{w w':World}(h:ae F w w'){b o:Nat}{v:Value}(q:¬F b)(j:w.cell? ⟨b,o,none⟩=some v):w'.cell? ⟨b,o,none⟩=some v:=by
 have:=h.block b (aD (a:=⟨b,o,none⟩) j) q;rw[←j];simp only[World.cell?,this]

theorem cY.U {F:Nat→Prop}{z:Nat}{M:St}{A t vb b:Nat}{q:List Int}{s W':World}(h:cY F z M A t vb b q s)(j:aa s W'):cY F z M A t vb b q W':=
 ⟨h.a4.U j,j.cell h.cs,j.cell h.cn,j.cell h.cv,h.nF,h.own.kept j.none (by simp),h.b2,h.g4⟩

theorem cY.next {F:Nat→Prop}{A:Nat}{M:St}{E z vb b:Nat}{I j:List Int}{t W':World}(h:cY F A M E z vb b I t)(q:ae (fun k=>k=b) t W')
  (K:W'.ownsMap Tryz.prog 50 (plainElem (H:=Unit) Tryz.prog 3) b j.length (dE j)) (J:j.Nodup) (s:∀x∈j,look M.cs x≠none):cY F A M E z vb b j W':=by
 obtain⟨L,N,O⟩:=h.ne
 exact⟨h.a4.a5 q (fun k s e=>h.nF (by cases e;exact s)),q.cellAt L h.cs,q.cellAt N h.cn,q.cellAt O h.cv,h.nF,K,J,s⟩

theorem cY.mark {F:Nat→Prop}{A:Nat}{M:St}{E z vb b:Nat}{q:List Int}{s W':World}(h:cY F A M E z vb b q s)(N:ae (fun k=>k=b) s W'){id:Int}{r:Rec}
  (L:W'.ownsMap Tryz.prog 50 (plainElem (H:=Unit) Tryz.prog 3) b (q.length+1) ((dE q).put (.int .u32 id) (.lit (.int .i64 1)))) (K:id∉q) (J:look M.cs id=some r):cY F A M E z vb b (q++[id]) W':=by
 refine h.next N ?_ ?_ ?_
 ·rw[xJ,List.length_append];exact L
 ·refine List.nodup_append.2 ⟨h.b2,by simp,fun a I c t e=>?_⟩;rw[List.mem_singleton]at t;subst e t;exact K I
 ·intro x j;rcases List.mem_append.1 j with j|j;·exact h.g4 x j
  ·rw[List.mem_singleton]at j;rw[j,J];simp

theorem cY.bx {F:Nat→Prop}{z:Nat}{M:St}{A t vb b:Nat}{j:List Int}{q:World}(h:cY F z M A t vb b j q):j.length≤1048576:=by
 have q:=pz M.cs.length j h.b2 (fun x s=>by
  cases j:look M.cs x with
  |none=>exact absurd j (h.g4 x s)
  |some r=>have:=bL j;exact⟨this.1,this.2.1⟩)
 obtain⟨⟨t,ib,ts,q,s,_,j,_⟩,_⟩:=h.a4;have:=j.bx;omega

def j9 (F:Nat→Prop)(z:Nat)(M:St)(A t vb b:Nat)(id:Int)(j:List Int)(s:World)(e:Ending)(W':World):Prop:=
 e=.returned (.tuple #[])∧∃q,eJ M.cs id j q∧ae (fun k=>k=b) s W'∧cY F z M A t vb b (j++q) W'

theorem rZ {F:Nat→Prop}{j:Nat}{M:St}{q E vb b:Nat}{t:List Int}{w:World}(W id:Int)(hid:id≤4294967295)(h:cY F j M q E vb b t w)
  (a7:∀r,look M.cs id=some r→∀t s,cY F j M q E vb b t s→Calls Tryz.prog 177 #[.agg #[.int .u8 r.lo.tag,.int .u32 r.lo.to],.pointer (some ⟨q,0,none⟩),.pointer (some ⟨E,0,none⟩),.pointer (some ⟨vb,0,none⟩)] s (j9 F j M q E vb b r.lo.to t s))
  (a5:∀r,look M.cs id=some r→∀t s,cY F j M q E vb b t s→Calls Tryz.prog 177 #[.agg #[.int .u8 r.hi.tag,.int .u32 r.hi.to],.pointer (some ⟨q,0,none⟩),.pointer (some ⟨E,0,none⟩),.pointer (some ⟨vb,0,none⟩)] s (j9 F j M q E vb b r.hi.to t s)) :
  Calls Tryz.prog 177 #[.agg #[.int .u8 W,.int .u32 id],.pointer (some ⟨q,0,none⟩),.pointer (some ⟨E,0,none⟩),.pointer (some ⟨vb,0,none⟩)] w (j9 F j M q E vb b id t w):=by
 have aw:=Lib.hid h
 have bp:=Lib.hid a7
 have bn:=Lib.hid a5
 have a2:=h.cs
 have T:∃I,w.cell? ⟨j,1,none⟩=some (.pointer (some ⟨I,0,none⟩))∧∀s,aa w s→Calls Tryz.prog 133 #[.pointer (some ⟨I,0,none⟩),.int .u32 id] s fun e w'=>e=.returned (.tuple #[.agg #[.int .u8 (an (look M.cs id)).ad,.int .u8 (an (look M.cs id)).I,.int .u8 (an (look M.cs id)).J,.int .u8 (an (look M.cs id)).lo.tag,.int .u32 (an (look M.cs id)).lo.to,.int .u8 (an (look M.cs id)).hi.tag,.int .u32 (an (look M.cs id)).hi.to],.bool (eZ (look M.cs id))])∧aa s w':=by
  obtain⟨⟨I,ib,ts,E,cl,b2,Y,-⟩,-⟩:=h.a4;exact⟨I,by rw[cell_of_row w j 1 _ _ _ b2];rfl,fun s E=>lU (Y.U E) id hid⟩
 obtain⟨I,a3,T⟩:=T
 have H:=Lib.hid T
 have b7:=aD a2
 have b6:=aD a3
 dsimp only at b7 b6
 have s:w.heap.size≠q:=by omega
 have s:w.heap.size≠j:=by omega
 have s:w.heap.size+1≠q:=by omega
 have b4:w.heap.size+1≠j:=by omega
 clear h a7 a5 T
 obtain⟨x,am⟩:∃x,x=an (look M.cs id):=⟨_,rfl⟩
 obtain⟨ok,ab⟩:∃ok,ok=eZ (look M.cs id):=⟨_,rfl⟩
 rw[←am,←ab]at H
 have av:=Lib.hid ab
 have bt:=Lib.hid am
 clear am ab
 go_enter Tryz.func177,Tryz.ntmps177
 go_upto_region 1 with fail
 go_cut [5,6] (fun E T s=>∃B,E=.pointer (some ⟨B,0,none⟩)∧T=.bool ok∧s.cell? ⟨B,3,none⟩=some (.int .u8 x.lo.tag)∧s.cell? ⟨B,4,none⟩=some (.int .u32 x.lo.to)∧s.cell? ⟨B,5,none⟩=some (.int .u8 x.hi.tag)∧s.cell? ⟨B,6,none⟩=some (.int .u32 x.hi.to) ∧
  s.cell? ⟨w.heap.size,0,none⟩=some (.int .u8 W)∧s.cell? ⟨w.heap.size,1,none⟩=some (.int .u32 id)∧aa w s)
 case first=>
  go_region_held3 (fun w'=>w'.cell? ⟨q,0,none⟩=some (.pointer (some ⟨j,0,none⟩))∧w'.cell? ⟨j,1,none⟩=some (.pointer (some ⟨I,0,none⟩))∧w'.cell? ⟨w.heap.size,1,none⟩=some (.int .u32 id)) (go_keep) ((first|(go_at_call 133;refine(H.out _ (by(exact kp))).mono ?_;rintro e w1 ⟨rfl,L⟩;obtain⟨s,E⟩:=L.cells;have U:aa (w.alloc (.cells #[.int .u8 W,.int .u32 id] 52)) w1:=(by(exact kp));have be:aa w w1:=(((aa.refl _).alloc _).trans U);have bg:w1.cell? ⟨w.heap.size,0,none⟩=some (.int .u8 W):=U.cell (by simp);have bi:w1.cell? ⟨w.heap.size,1,none⟩=some (.int .u32 id):=U.cell (by simp);have s:=be.cell a2;have s:=be.cell a3;have b8:=U.size;simp only[World.size_alloc]at b8;have b4:w1.heap.size≠j:=(by omega);have j:w1.heap.size≠w.heap.size:=(by omega);have j:w1.heap.size≠q:=(by omega);have a8:w.heap.size<w1.heap.size:=(by omega))))
  all_goals(try go_wp2_with fail)
  all_goals go_meet
  all_goals first
   |exact⟨w1.heap.size,rfl,rfl,by simp[go_sem],by simp[go_sem],by simp[go_sem],by simp[go_sem],by simp[go_sem,a8,bg],by simp[go_sem,a8,bi],by(exact kp)⟩
   |(have cf:=L.cell (a:=⟨w.heap.size+1,3,none⟩) (v:=.int .u8 0) (by simp[go_sem])
     have cg:=L.cell (a:=⟨w.heap.size+1,4,none⟩) (v:=.int .u32 0) (by simp[go_sem])
     have ch:=L.cell (a:=⟨w.heap.size+1,5,none⟩) (v:=.int .u8 0) (by simp[go_sem])
     have ci:=L.cell (a:=⟨w.heap.size+1,6,none⟩) (v:=.int .u32 0) (by simp[go_sem])
     exact⟨w.heap.size+1,rfl,rfl,by simp[go_sem,cf],by simp[go_sem,cg],by simp[go_sem,ch],by simp[go_sem,ci],by simp[go_sem,bg],by simp[go_sem,bi],by(exact kp)⟩)
 case rest=>
  obtain⟨B,rfl,rfl,a4,d4,bx,b0,b1,q,j⟩:=hcut;have z:=Lib.hid (aw.out.U j);have X:=Lib.hid j;have q:=z.out.cn;clear j;cases A:look M.cs id with
  |none=>
   have Z:ok=false:=(by rw[av.out,A];rfl);subst Z;go_wp2
   first|go_end0|refine bodyPost_ret (results_none rfl _ _ _) rfl ?_
   exact⟨rfl,[],eJ.none A,aa.av X.out _,by simpa using z.out⟩
  |some r=>
   have Z:ok=true:=(by rw[av.out,A];rfl);have ca:x=r:=(by rw[bt.out,A];rfl);subst Z;subst ca;have b5:=bL A
   have j:M.cs.length≤1048576:=by
    obtain⟨⟨_,_,_,_,_,_,Y,_⟩,_⟩:=aw.out.a4;exact Y.bx
   have b9:(Lit.int .u32 id).wf=true:=(by obtain⟨j,q,_⟩:=b5;simp[Lit.wf,show IntKind.u32.min=0 from rfl,show IntKind.u32.max=4294967295 from rfl];omega);have a6:=Maps.keyOf_int_mk Tryz.underlying50 b9;obtain⟨c,j,S,-⟩:=z.out.own.lookup_int (Maps.int_keyed Tryz.underlying50) Tryz.underlying187 Tryz.underlying3 (sm _) a6;by_cases N:id∈t
   ·rw[qe N]at S;cases S;go_wp2
    first|go_end0|refine bodyPost_ret (results_none rfl _ _ _) rfl ?_
    exact⟨rfl,[],eJ.hq N,aa.av X.out _,by simpa using z.out⟩
   ·rw[qf N]at S;cases S;have b3:t.length<maxLen:=(by have:=z.out.bx;unfold maxLen;omega);have K:B≠b:=z.out.cS a4;have j:w.heap.size≠b:=z.out.cS b1;go_wp2_with (first|(at_mapUpdate;refine wpList_mapUpdate_own _ rfl _ _ _ 187 rfl 50 3 (Maps.int_keyed Tryz.underlying50) Tryz.underlying187 _ b t.length _ rfl z.out.own b3 _ _ (.int .u32 id) rfl rfl a6 (.lit (.int .i64 1)) [] (plainElem_int Tryz.underlying3 (by decide)) ?_;intro t s q;have J:=Lib.hid (ae.e0 q);have j:=Lib.hid (z.out.mark J.out s N A);have cb:=J.out.cellAt K a4;have cd:=J.out.cellAt K d4;have a':=J.out.cellAt K bx;have bb:=J.out.cellAt K b0;have ce:=j.out.cv;clear s q)|fail)
    refine(bp.out x A _ t j.out).mono ?_;rintro e cj ⟨rfl,bv,j,O,q⟩;have bq:=Lib.hid j;have O:=Lib.hid O;have a1:=Lib.hid q;have a':=O.out.cellAt K a';have bb:=O.out.cellAt K bb;have ce:=a1.out.cv;clear j q cb cd;go_wp2_with fail
    refine(bn.out x A _ cj a1.out).mono ?_;rintro e j ⟨rfl,bw,j,ad,q⟩;have br:=Lib.hid j;have ad:=Lib.hid ad;have bs:=Lib.hid q;clear j q;go_wp2
    first|go_end0|refine bodyPost_ret (results_none rfl _ _ _) rfl ?_
    refine⟨rfl,id::(bv++bw),eJ.f' A N bq.out br.out,(((aa.av X.out _).a' J.out).a' O.out).a' ad.out,?_⟩;have:=bs.out;simpa using this

theorem CB {F:Nat→Prop}{O:Nat}{M:St}{K I vb b:Nat}:∀(s:Nat) (e:Edge) (q:List Int) (w:World),e.ok→cY F O M K I vb b q w→(∀r,look M.cs e.to=some r→M.n-r.I<(s:Int)) →
  Calls Tryz.prog 177 #[.agg #[.int .u8 e.tag,.int .u32 e.to],.pointer (some ⟨K,0,none⟩),.pointer (some ⟨I,0,none⟩),.pointer (some ⟨vb,0,none⟩)] w (j9 F O M K I vb b e.to q w):=by
 intro s
 induction s with
 |zero=>
  intro e q w I h z
  have no:∀r,look M.cs e.to=some r→False:=fun r j=>by
   have g:=h.a4.wf.b8 j;have t:=z r j;have L:=g.tb;have K:=g.bn;omega
  exact rZ e.tag e.to I.2.2 h (fun r j=>(no r j).elim) (fun r j=>(no r j).elim)
 |succ s N=>
  intro e q w I h z;refine rZ e.tag e.to I.2.2 h (fun r j q A E=>?_) (fun r j q A E=>?_)
  ·refine N r.lo q A (h.a4.b1 j).lo E (fun S J=>?_);have t:=z r j;have L:=(oY h.a4.wf j (.inl rfl) J).1;push_cast at t;omega
  ·refine N r.hi q A (h.a4.b1 j).hi E (fun S J=>?_);have t:=z r j;have L:=(oY h.a4.wf j (.inr rfl) J).1;push_cast at t;omega

def fO (w:World)(a:Option Addr)(len:Nat)(es:List Edge):Prop:=
 es.length=len∧∀i e,es[i]?=some e→e.ok∧∃b off,a=some ⟨b,off,none⟩∧w.cell? ⟨b,off+i*2,none⟩=some (.int .u8 e.tag)∧w.cell? ⟨b,off+i*2+1,none⟩=some (.int .u32 e.to)

theorem nj {F:Nat→Prop}{w:World}{z:Nat}{M:St}(h:ag F w z M)(a:Option Addr)(len cap:Nat)(es:List Edge)(L:fO w a len es)(am:len≤1048576) :
  Calls Tryz.prog 111 #[.pointer (some ⟨z,0,none⟩),.slice a len cap] w fun e w'=>
   ∃b j,e=.returned (.map (some b))∧eX M.cs (es.map Edge.to) j∧w'.ownsMap Tryz.prog 50 (plainElem (H:=Unit) Tryz.prog 3) b j.length (dE j)∧j.length≤1048576∧w.heap.size≤b∧aa w w':=by
 have J:=Lib.hid h
 have A:=Lib.hid L
 have am:=h.lt _ h.own
 clear h L
 have L:=@run_makeMap Tryz.prog
 go_enter Tryz.func111,Tryz.ntmps111
 go_wp2
 go_loopg [13] len (fun gk i wr=>∃(d:Nat) (j:List Int),d+gk=len∧i=.int .i64 (d:Int)∧eX M.cs ((es.take d).map Edge.to) j∧cY F z M w.heap.size (w.heap.size+2) (w.heap.size+3) (w.heap.size+1) j wr∧aa w wr)
 case atStart=>
  have s:aa w ((((w.alloc (.cells #[.pointer (some ⟨z,0,none⟩)] 29)).alloc (.map #[] 0)).alloc (.cells #[.map (some (w.heap.size+1))] 187)).alloc (.cells #[.func (.func 177) #[] #[.pointer (some ⟨w.heap.size,0,none⟩),.pointer (some ⟨w.heap.size+1+1,0,none⟩),.pointer (some ⟨w.heap.size+1+1+1,0,none⟩)]] 248)):=by(exact kp)
  refine⟨0,[],by omega,rfl,eX.nil _,⟨J.out.U s,by simp[go_sem],by simp[go_sem],by simp[go_sem],fun X=>?_,?_,by simp,by simp⟩,s⟩;·have:=J.out.lt _ X;omega
  ·have I:=World.ownsMap_made (H:=Unit) (w.alloc (.cells #[.pointer (some ⟨z,0,none⟩)] 29)) Tryz.prog 50 (plainElem (H:=Unit) Tryz.prog 3);rw[World.size_alloc]at I;exact(I.alloc _).alloc _
 case round=>
  obtain⟨d,j,ad,rfl,z,J,s⟩:=hrel;have K:=Lib.hid z;have q:=Lib.hid J;have t:=Lib.hid s;clear z J s;have z:=t.out.size;by_cases Z:d<len
  ·obtain⟨x,N⟩:∃x,es[d]?=some x:=⟨_,List.getElem?_eq_getElem (by rw[A.out.1];exact Z)⟩;obtain⟨ab,b,off,rfl,z,J⟩:=A.out.2 d x N;have z:=t.out.cell z;have J:=t.out.cell J;have J:b<wr.heap.size:=aD z;have z:=Lib.hid (q.out.U ((aa.refl wr).alloc (.cells #[.int .u8 x.tag,.int .u32 x.to] 52)));have J:=z.out.cv
   have O:=Lib.hid (CB (17:Nat) x j _ ab z.out (fun r z=>by
    have I:=q.out.a4.wf.bw;have I:=(q.out.a4.b1 z).I.1
    omega))
   go_wp2_with fail
   refine O.out.mono ?_;rintro e z ⟨rfl,W,z,J,I⟩;have S:=Lib.hid z;have U:=Lib.hid I;have T:=Lib.hid J;clear z I J;go_wp2_with fail
   go_roundg (gk-1)
   case rel=>
    refine⟨d+1,j++W,by omega,by simp,?_,U.out,(t.out.alloc _).new T.out (fun k s=>by omega)⟩;have E:es.take (d+1)=es.take d++[x]:=(by rw[List.take_add_one,N];rfl);rw[E,List.map_append];exact K.out.step S.out
   case measure=>omega
  ·have s:=q.out.cn;have Y:=q.out.bx;go_wp2
   have E:es.take d=es:=List.take_of_length_le (by have:=A.out.1;omega);go_ret
   exact⟨_,j,rfl,by have:=K.out;rwa[E]at this,q.out.own,Y,by omega,t.out⟩

open Go.RowKit Go.Sort

theorem kC:(Tryz.prog.info? 50).map (fun i=>(i.zero,i.size,i.bytes))=some (some (.int .u32 0),1,4):=by kernel_rfl

def iF (w:World)(v:Value)(ids:List Int):Prop:=
 ∃a cap,v=.slice a ids.length cap∧∀i x,ids[i]?=some x→∃g,a=some ⟨g,0,none⟩∧w.cell? ⟨g,i,none⟩=some (.int .u32 x)

theorem qI {H:Type}{P:Program}{k:TypeId}{R:Value→Option (DataW H×List MemPlace)}{w:World}{b r n:Nat}{D:DataW H}{left:Lit→Bool}{j:Nat}(h:w.ranges P k R b r n D left j) :
  (∀cs e f,w.heap[r]?≠some (.cells cs e f))∧(∀cs e f,w.heap[b]?≠some (.cells cs e f)):=by
 obtain⟨_,_,_,_,_,q,_,_,_,s,_⟩:=h
 exact⟨fun cs e f h=>(by rw[s]at h;cases h),fun cs e f h=>(by rw[q]at h;cases h)⟩

structure fq (S:List Int)(left:Lit→Bool)(ids:List Int):Prop where
 b2:ids.Nodup
 mem:∀x,x∈ids↔(x∈S∧left (.int .u32 x)=false)

theorem fq.start (j:List Int):fq j (Maps.has (dE j)) []:=
 ⟨by simp,fun x=>by
  constructor;·intro h;simp at h
  ·rintro⟨s,q⟩;rw[(kM j x).2 s]at q
   cases q⟩

theorem fq.step {j:List Int}{left:Lit→Bool}{ids:List Int}(h:fq j left ids){x:Int}(hS:x∈j)(A:left (.int .u32 x)=true) :
  fq j (fun t=>left t&&!t.sameKey (.int .u32 x)) (ids++[x]):=by
 refine⟨List.nodup_append.2 ⟨h.b2,by simp,fun a z c q e=>?_⟩,fun y=>?_⟩
 ·rw[List.mem_singleton]at q;subst e q;have:=((h.mem _).1 z).2;rw[A]at this;cases this
 ·by_cases s:y=x
  ·subst s;simp[hS,Lit.sameKey]
  ·simp[h.mem y,s,Lit.sameKey]

theorem fq.perm {j:List Int}{left:Lit→Bool}{ids:List Int}(h:fq j left ids)(hS:j.Nodup)(q:∀k,left k=false):ids.Perm j:=
 (List.perm_ext_iff_of_nodup h.b2 hS).2 fun x=>by rw[h.mem x,q];simp

theorem zo {F:Nat→Prop}{w:World}{a8:Nat}{M:St}(h:ag F w a8 M)(a:Option Addr)(len cap:Nat)(es:List Edge)(a4:fO w a len es)(b7:len≤1048576) :
  Calls Tryz.prog 62 #[.pointer (some ⟨a8,0,none⟩),.slice a len cap] w fun e w'=>
   ∃v,e=.returned v∧iF w' v (aQ M.cs (es.map Edge.to))∧aa w w'∧∀g,v.ownBlock=some g→w.heap.size≤g:=by
 have bp:=Lib.hid (nj h a len cap es a4 b7)
 have a8:=Lib.hid h
 obtain⟨co,hi,cj,cl,cn⟩:=info_parts kC
 clear h a4
 go_enter Tryz.func62,Tryz.ntmps62
 go_wp2_with fail
 refine bp.out.mono ?_
 rintro e w1 ⟨b,q,rfl,a4,a',b7,bp,a8⟩
 have S:=Lib.hid a4
 have a2:=Lib.hid a8
 clear a4 a8
 go_wp2_with (first
  |(at_range;refine wpList_range_own _ rfl _ 187 rfl 50 3 (Maps.int_keyed Tryz.underlying50) Tryz.underlying187 _ b q.length _ rfl a' ?_;intro w0 cb E a4)
  |fail)
 go_frame
 have ch:=a'.size_le
 have cd:w0.ownsRow w.heap.size 50 1 (.slice none 0 0) 0 []:=World.ownsRow_nil _ _ _ _
 have br:=Lib.hid (show aa w w0 from a2.out.trans ⟨E.os,E.tape,E.output,E.size,fun i hi=>E.block i hi (by simp)⟩)
 go_loopg [5] (Maps.size (dE q)) (fun gk v wr=>∃(left:Lit→Bool) (ids:List Int),wr.ranges Tryz.prog 50 (plainElem (H:=Unit) Tryz.prog 3) b w1.heap.size q.length (dE q) left gk ∧
  wr.ownsRow w.heap.size 50 1 v ids.length (ids.map (Value.int .u32))∧fq q left ids∧ids.length+gk≤q.length∧(ids=[]→v=.slice none 0 0)∧aa w wr)
 case atStart=>exact⟨_,[],cb,cd,fq.start q,by simpa using ch,fun _=>rfl,br.out⟩
 case round=>
  obtain⟨left,ids,ab,J,E,a8,a4,j⟩:=hrel;have bt:=Lib.hid a4;clear a4;have a1:=Lib.hid E;have O:=Lib.hid j;clear E j;obtain⟨L,s,rfl,E⟩:=eO J
  go_wp2_with (first
   |(at_next;refine wpList_next_ranges_ii _ rfl _ rfl 50 3 .u32 .i64 (Maps.int_keyed Tryz.underlying50) Tryz.underlying50 Tryz.underlying3 b w1.heap.size q.length _ _ _ rfl ab ?_ ?_)
   |fail)
  ·intro E E;have bb:=a1.out.perm S.out.b2 E;rcases J.2 with⟨t,E⟩|⟨g,b0,T,t,a6,W,Z,a4,U,ci⟩
   ·have b2:ids=[]:=List.length_eq_zero_iff.1 E;subst b2;cases t;have E:q=[]:=by have:=bb.length_eq;exact List.length_eq_zero_iff.1 (by simpa using this.symm)
    have b3:aQ M.cs (es.map Edge.to)=[]:=by
     rw[List.eq_nil_iff_forall_not_mem];intro y a4;have:=(S.out.e8 y).2 (eL.1 a4);rw[E]at this;simp at this
    go_wp2_with (go_at_call 112;refine(rm _).mono ?_;rintro e N ⟨rfl,rfl⟩)
    go_ret
    refine⟨_,rfl,?_,O.out,fun g W=>by simp[Value.ownBlock]at W⟩;rw[b3];exact⟨none,0,rfl,by simp⟩
   ·cases t
    have b4:bh wr g s ids.toArray:=by
     refine⟨T,W,by omega,by simpa using Z,fun z I=>?_⟩;have b6:z<ids.length:=(by simpa using I);have E:(T.toList.take (ids.length*1))[z]?=(ids.map (Value.int .u32))[z]?:=(by rw[ci]);rw[List.getElem?_take_of_lt (by omega),Array.getElem?_toList]at E;rw[E,getElem!_pos ids.toArray z I];simp[b6]
    have ca:0<ids.length:=by
     rcases Nat.eq_zero_or_pos ids.length with av|av
     ·have:=bt.out (List.length_eq_zero_iff.1 av);cases this
     ·exact av
    have bw:=Lib.hid (AF g s ids.length ids.toArray wr b4 (by simp) ca (by omega));go_wp2_with fail
    refine bw.out.mono ?_;rintro e N ⟨rfl,d',be,cg,ad⟩;have Y:aa w N:=O.out.new ad.av (fun k j=>by subst j;exact a6);have a7:=rn (d:=ids.toArray) (d':=d') S.out (by simpa using bb) (by simpa using be) (by simpa using cg)
    have b8:(aQ M.cs (es.map Edge.to)).length=ids.length:=by
     rw[←a7,Array.length_toList,be.1];simp
    have ce:=ad.row;clear ad;go_wp2
    go_ret
    refine⟨.slice (some ⟨g,0,none⟩) ids.length s,rfl,⟨some ⟨g,0,none⟩,s,by rw[b8],fun z x am=>⟨g,rfl,?_⟩⟩,Y,fun E b5=>by simp[Value.ownBlock]at b5;omega⟩;rw[←a7,Array.getElem?_toList]at am;have I:=(Array.getElem?_eq_some_iff.1 am).1;rw[ce.cell z I,getElem!_pos d' z I,(Array.getElem?_eq_some_iff.1 am).2]
  ·intro x c bn b1 z z b9 a5 bg z K cf z;have bi:x∈q:=(kM q x).1 (Maps.has_true_of_atKey a5)
   have aw:∀k,Value.ownBlock (.slice L ids.length s)=some k→k≠w1.heap.size∧k≠b:=by
    intro k j;obtain⟨cs,U⟩:=bM J j;obtain⟨q,z⟩:=qI ab;exact⟨fun e=>q _ _ _ (by rw[←e];exact U),fun e=>z _ _ _ (by rw[←e];exact U)⟩
   have X:aa w bn:=O.out.new (ae.e0 K) (fun k j=>by subst j;exact a2.out.size);have q:bn.ownsRow w.heap.size 50 1 (.slice L ids.length s) ids.length (ids.map (Value.int .u32)):=(ae.e0 K).br (fun k j=>(aw k j).1) J;have bs:=Lib.hid X;have a3:=Lib.hid q;have bq:=Lib.hid bg;have bx:=Lib.hid bi;have z:=X.size;have z:=Lib.hid K;clear X q J ab bg bi a5 K
   go_wp2_with (first
    |(at_builtin;refine wpList_append_own _ rfl _ _ 88 rfl w.heap.size 50 co (.int .u32 0) 1 4 Tryz.underlying88 hi cj cl cn rfl (by decide) (.slice L ids.length s) ids.length (ids.map (Value.int .u32)) rfl (a3.out.alloc _) ⟨wr.heap.size,0,none⟩ 1 1 [.int .u32 x] rfl rfl (ez _ _ _ _ cf.symm) (by simp[Value.oneCell']) (by unfold maxLen;omega) (by omega) (by simp;omega) ?_;intro E N z q _)
    |fail)
   have bv:=Lib.hid z;have A:=Lib.hid q;clear z q;go_roundg b1
   case rel=>
    have Y:aa w N:=by
     refine aa.new (F:=fun k=>Value.ownBlock (.slice L ids.length s)=some k) (bs.out.alloc (.cells #[.int .u32 x] 50)) ⟨A.out.os,A.out.tape,A.out.output,A.out.size,fun k j Z=>A.out.block k j (fun e=>Z e.symm)⟩ (fun k j=>?_);rcases a3.out.2 with⟨t,_⟩|⟨g,b0,T,t,a6,_⟩
     ·rw[t]at j;simp[Value.ownBlock]at j
     ·rw[t]at j;simp[Value.ownBlock]at j;omega
    refine⟨_,ids++[x],(bq.out.alloc _).kept A.out (fun e=>(aw b e.symm).2 rfl) (fun e=>(aw _ e.symm).1 rfl),?_,a1.out.step bx.out b9,by simp;omega,fun h=>by simp at h,Y⟩;simpa using bv.out
   case measure=>omega

theorem ld {F:Nat→Prop}{w:World}{j:Nat}{M:St}(h:ag F w j M)(a:Option Addr)(len cap:Nat)(es:List Edge)(q:fO w a len es)(s:len≤1048576) :
  Calls Tryz.prog 62 #[.pointer (some ⟨j,0,none⟩),.slice a len cap] w fun e w'=>
   ∃v,e=.returned v∧iF w' v (aQ M.cs (es.map Edge.to))∧aa w w':=
 (zo h a len cap es q s).mono fun _ _ ⟨v,j,s,q,_⟩=>⟨v,j,s,q⟩

end Go.Proofs.YtafkamlhimkbmaaGreat
