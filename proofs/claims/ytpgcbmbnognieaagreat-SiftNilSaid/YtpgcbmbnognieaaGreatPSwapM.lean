/-
  swap: the map from edges of forms at levels to edges: its keys, what it holds.
-/
import Derived.Test.YtpgcbmbnognieaaGreatPSiftE
import Derived.Test.YtpgcbmbnognieaaGreatPSwapP
namespace Go.Proofs.YtpgcbmbnognieaaGreat
set_option maxRecDepth 1000000
set_option maxHeartbeats 8000000
set_option linter.unusedSimpArgs false
set_option linter.unusedVariables false
open Go.RowKit

theorem rowSpot:(340:TypeId)<Tryz.prog.types.size:=of_decide_eq_true (by kernel_rfl)

theorem wideSpot:(match Tryz.prog.underlying 340 with|some (.array _ _)|some (.struct _)=>true|_=>false)=true:=by rw [Tryz.underlying340]

theorem lawSpot:Go.Maps.Keyed Tryz.prog 340:=Go.Maps.Keyed.of_law (deep_law_laid laidC (m:=3) (by omega) rowSpot (by kernel_rfl) wideSpot)

def spotV (f:Int)(e:Edge)(l:Int):Value:=.agg #[.int .u8 f,.int .u8 e.tag,.int .u32 e.to,.int .i64 l]

noncomputable def spotL (f:Int)(e:Edge)(l:Int):Lit:=.string (keyBytes [.int .u8 f,.int .u8 e.tag,.int .u32 e.to,.int .i64 l])

theorem keySpot (f:Int)(e:Edge)(l:Int)(hf:1≤f∧f≤5)(he:e.ok)(h0:0≤l)(h1:l≤16):keyOf Tryz.prog 340 (spotV f e l)=some (spotL f e l):=by
 obtain⟨d,hd⟩:=types_big
 have hmin:IntKind.u8.min=0:=rfl
 have hmax:IntKind.u8.max=255:=rfl
 have hmin2:IntKind.u32.min=0:=rfl
 have hmax2:IntKind.u32.max=4294967295:=rfl
 have w0:(Lit.int .u8 f).wf=true:=by simp only [Lit.wf,Bool.and_eq_true,decide_eq_true_eq,hmin,hmax];omega
 have w1:(Lit.int .u8 e.tag).wf=true:=by simp only [Lit.wf,Bool.and_eq_true,decide_eq_true_eq,hmin,hmax];exact he.1
 have w2:(Lit.int .u32 e.to).wf=true:=by simp only [Lit.wf,Bool.and_eq_true,decide_eq_true_eq,hmin2,hmax2];exact he.2
 have w3:(Lit.int .i64 l).wf=true:=WalkArith.wf_i64 (by omega)
 have k1:Tryz.prog.keyType 340=true:=by kernel_rfl
 have c1:Tryz.prog.cellsOf 340=4:=by kernel_rfl
 have c2:Tryz.prog.cellsOf 25=2:=by kernel_rfl
 have c3:Tryz.prog.cellsOf 3=1:=by kernel_rfl
 have c4:Tryz.prog.cellsOf 5=1:=by kernel_rfl
 have c5:Tryz.prog.cellsOf 23=1:=by kernel_rfl
 have c6:Tryz.prog.cellsOf 32=1:=by kernel_rfl
 unfold keyOf spotV spotL
 rw [Tryz.underlying340]
 simp only [k1,hd]
 simp [Value.formed,Value.cells,Tryz.underlying340,c1,Program.keyLits,Tryz.underlying25,Tryz.underlying32,Tryz.underlying3,Tryz.underlying5,Tryz.underlying23,c2,c3,c4,c5,c6,w0,w1,w2,w3]
 rw [if_pos (fun i hi=>by
  rcases i with _|_|i
  ·exact of_decide_eq_false rfl
  ·exact of_decide_eq_false rfl
  ·omega)]
 rfl

theorem spotL_inj {f f':Int}{e e':Edge}{l l':Int}(hf:1≤f∧f≤5)(hf':1≤f'∧f'≤5)(he:e.ok)(he':e'.ok)(h0:0≤l)(h1:l≤16)(h0':0≤l')(h1':l'≤16)(h:spotL f e l=spotL f' e' l'):f=f'∧e=e'∧l=l':=by
 have k1:=keySpot f e l hf he h0 h1
 have k2:=keySpot f' e' l' hf' he' h0' h1'
 rw [← h] at k2
 have:=lawSpot.inj k1 k2
 unfold spotV at this
 cases e
 cases e'
 simp at this
 obtain⟨a,b,c,d⟩:=this
 subst a b c d
 exact⟨rfl,rfl,rfl⟩

theorem spotL_key (f:Int)(e:Edge)(l:Int):WideAt.IsKeyLit (spotL f e l):=True.intro

structure MemoS (lv:Int)(M:St)(V:List (Int×Edge×Int))(D:DataW Unit):Prop where
 isMap:Go.Maps.IsMap D
 fit:∀ p∈V,(1≤p.1∧p.1≤5)∧p.2.1.ok∧0≤p.2.2∧p.2.2≤16∧M.leads p.1 p.2.1 p.2.2=true
 keys:∀ f e l,1≤f∧f≤5→e.ok→0≤l→l≤16→(Go.Maps.has D (spotL f e l)=true↔(f,e,l)∈V)
 good:∀ p∈V,∃ x,D.atKey (spotL p.1 p.2.1 p.2.2) (edgeD ⟨0,0⟩)=edgeD x∧GoodS lv p.1 M p.2.1 p.2.2 x

theorem MemoS.empty (lv:Int)(M:St):MemoS lv M [] (.map []):=by
 refine⟨Go.Maps.isMap_empty,fun p h=>by simp at h,fun f e l _ _ _ _=>?_,fun p h=>by simp at h⟩
 simp [Go.Maps.has_eq]

theorem MemoS.ext {lv:Int}{M M':St}{V:List (Int×Edge×Int)}{D:DataW Unit}(h:MemoS lv M V D)(hE:Ext M M')(hw:M.wf):MemoS lv M' V D:=
 ⟨h.isMap,fun p hp=>by obtain⟨a,b,c,d,e⟩:=h.fit p hp;exact⟨a,b,c,d,hE.leads e⟩,h.keys,fun p hp=>by
  obtain⟨x,a,b⟩:=h.good p hp
  exact⟨x,a,b.ext hE hw (h.fit p hp).2.2.2.2⟩⟩

theorem MemoS.put {lv f:Int}{M:St}{V:List (Int×Edge×Int)}{D:DataW Unit}(h:MemoS lv M V D){e x:Edge}{l:Int}(hf:1≤f∧f≤5)(he:e.ok)(h0:0≤l)(h1:l≤16)(hl:M.leads f e l=true)(hp:(f,e,l)∉V)(hx:GoodS lv f M e l x) :
  MemoS lv M (V++[(f,e,l)]) (D.put (spotL f e l) (edgeD x)):=by
 refine⟨h.isMap.put _ _,fun p hp=>?_,fun f' e' l' hf' he' h0' h1'=>?_,fun p hp2=>?_⟩
 ·rcases List.mem_append.1 hp with hp|hp
  ·exact h.fit p hp
  ·rw [List.mem_singleton] at hp
   subst hp
   exact⟨hf,he,h0,h1,hl⟩
 ·by_cases hs:spotL f' e' l'=spotL f e l
  ·obtain⟨rfl,rfl,rfl⟩:=spotL_inj hf' hf he' he h0' h1' h0 h1 hs
   rw [Go.Maps.has_put_same h.isMap (spotL_key _ _ _)]
   simp
  ·rw [Go.Maps.has_put_other hs,h.keys f' e' l' hf' he' h0' h1',List.mem_append,List.mem_singleton]
   constructor
   ·exact .inl
   ·rintro(a|a)
    ·exact a
    ·cases a;exact absurd rfl hs
 ·rcases List.mem_append.1 hp2 with hp2|hp2
  ·obtain⟨z,a,b,c,d⟩:=h.fit p hp2
   have hs:spotL p.1 p.2.1 p.2.2≠spotL f e l:=fun hh=>by
    obtain⟨q0,q1,q2⟩:=spotL_inj z hf a he b c h0 h1 hh
    exact hp (by rw [← q0,← q1,← q2];exact hp2)
   obtain⟨y,y1,y2⟩:=h.good p hp2
   exact⟨y,by rw [Go.Maps.atKey_put_other hs];exact y1,y2⟩
  ·rw [List.mem_singleton] at hp2
   subst hp2
   exact⟨x,Go.Maps.atKey_put_same h.isMap (spotL_key _ _ _) _ _,hx⟩

theorem MemoS.none {lv f:Int}{M:St}{V:List (Int×Edge×Int)}{D:DataW Unit}(h:MemoS lv M V D){e:Edge}{l:Int}(hf:1≤f∧f≤5)(he:e.ok)(h0:0≤l)(h1:l≤16)(hp:(f,e,l)∉V):Go.Maps.has D (spotL f e l)=false∧D.atKey (spotL f e l) (edgeD ⟨0,0⟩)=edgeD ⟨0,0⟩:=by
 have hh:Go.Maps.has D (spotL f e l)=false:=by
  cases hb:Go.Maps.has D (spotL f e l) with
  | false=>rfl
  | true=>exact absurd ((h.keys f e l hf he h0 h1).1 hb) hp
 exact⟨hh,Go.Maps.atKey_of_not_has hh _⟩

structure StepCtx (F:Nat→Prop)(W:World)(sb wb b:Nat)(lv:Int)(M:St)(V:List (Int×Edge×Int))(D:DataW Unit):Prop where
 rep:StoreRep F W sb M
 c0:W.cell? ⟨wb,0,none⟩=some (.pointer (some ⟨sb,0,none⟩))
 c1:W.cell? ⟨wb,1,none⟩=some (.int .i64 lv)
 c2:W.cell? ⟨wb,2,none⟩=some (.map (some b))
 nF:¬F b
 nW:¬F wb
 own:W.ownsMap Tryz.prog 340 edgeElem b V.length D
 memo:MemoS lv M V D

theorem StepCtx.block {F:Nat→Prop}{W:World}{sb wb b:Nat}{lv:Int}{M:St}{V:List (Int×Edge×Int)}{D:DataW Unit}(h:StepCtx F W sb wb b lv M V D):∃ es clock,W.heap[b]?=some (.map es clock):=by
 obtain⟨es,clock,hb,_⟩:=h.own
 exact⟨es,clock,hb⟩

theorem StepCtx.neCell {F:Nat→Prop}{W:World}{sb wb b:Nat}{lv:Int}{M:St}{V:List (Int×Edge×Int)}{D:DataW Unit}(h:StepCtx F W sb wb b lv M V D){k o:Nat}{v:Value}(hv:W.cell? ⟨k,o,none⟩=some v):k≠b:=by
 obtain⟨es,clock,hb⟩:=h.block
 intro e
 subst e
 simp [World.cell?,hb] at hv

theorem StepCtx.lt {F:Nat→Prop}{W:World}{sb wb b:Nat}{lv:Int}{M:St}{V:List (Int×Edge×Int)}{D:DataW Unit}(h:StepCtx F W sb wb b lv M V D):b<W.heap.size∧wb<W.heap.size:=by
 obtain⟨es,clock,hb⟩:=h.block
 exact⟨(Array.getElem?_eq_some_iff.1 hb).1,lt_of_cell h.c0⟩

theorem ownsSpot_same {W W':World}{b n:Nat}{D:DataW Unit}(h:W.ownsMap Tryz.prog 340 edgeElem b n D)(he:W'.heap[b]?=W.heap[b]?):W'.ownsMap Tryz.prog 340 edgeElem b n D:=by
 obtain⟨es,clock,hb,r⟩:=h
 exact⟨es,clock,by rw [he];exact hb,r⟩

theorem StepCtx.keeps {F:Nat→Prop}{W W':World}{sb wb b:Nat}{lv:Int}{M:St}{V:List (Int×Edge×Int)}{D:DataW Unit}(h:StepCtx F W sb wb b lv M V D)(hk:Keeps W W'):StepCtx F W' sb wb b lv M V D:=
 ⟨h.rep.keeps hk,hk.cell h.c0,hk.cell h.c1,hk.cell h.c2,h.nF,h.nW,ownsSpot_same h.own (hk.block b h.lt.1),h.memo⟩

theorem StepCtx.store {F F':Nat→Prop}{W W':World}{sb wb b:Nat}{lv:Int}{M M':St}{V:List (Int×Edge×Int)}{D:DataW Unit}(h:StepCtx F W sb wb b lv M V D)(hu:Upd F W W')(hr:StoreRep F' W' sb M')(hF:∀ j,F' j→F j∨W.heap.size≤j)(hE:Ext M M'):StepCtx F' W' sb wb b lv M' V D:=by
 obtain⟨l1,l2⟩:=h.lt
 have nb:¬F' b:=fun hh=>by rcases hF _ hh with q|q;exact h.nF q;omega
 have nw:¬F' wb:=fun hh=>by rcases hF _ hh with q|q;exact h.nW q;omega
 exact⟨hr,hu.cellAt h.nW h.c0,hu.cellAt h.nW h.c1,hu.cellAt h.nW h.c2,nb,nw,ownsSpot_same h.own (hu.block b l1 h.nF),h.memo.ext hE h.rep.wf⟩

theorem StepCtx.look {F:Nat→Prop}{W:World}{sb wb b:Nat}{lv f:Int}{M:St}{V:List (Int×Edge×Int)}{D:DataW Unit}(h:StepCtx F W sb wb b lv M V D){e:Edge}{l:Int}(hf:1≤f∧f≤5)(he:e.ok)(h0:0≤l)(h1:l≤16) :
  ∃ x,D.atKey (spotL f e l) (edgeD ⟨0,0⟩)=edgeD x∧∀ W',W'.heap[b]?=W.heap[b]?→(Instr.lookup 335 (.map (some b)) (spotV f e l) true).run Tryz.prog W'=.ok (.tuple #[.agg #[.int .u8 x.tag,.int .u32 x.to],.bool (Go.Maps.has D (spotL f e l))]) W':=by
 have hx:∃ x,D.atKey (spotL f e l) (edgeD ⟨0,0⟩)=edgeD x:=by
  by_cases hp:(f,e,l)∈V
  ·obtain⟨x,a,_⟩:=h.memo.good _ hp
   exact⟨x,a⟩
  ·exact⟨_,(h.memo.none hf he h0 h1 hp).2⟩
 obtain⟨x,hx⟩:=hx
 refine⟨x,hx,fun W' hW=>?_⟩
 obtain⟨v,ps,hrun,hv⟩:=(ownsSpot_same h.own hW).look_ok lawSpot Tryz.underlying335 (zeroEdge W') (edgeElem_mk ⟨0,0⟩) (keySpot f e l hf he h0 h1)
 rw [hx] at hv
 rw [hrun,edgeElem_inv hv]

theorem StepCtx.put {F:Nat→Prop}{W W':World}{sb wb b:Nat}{lv f:Int}{M:St}{V:List (Int×Edge×Int)}{D:DataW Unit}(h:StepCtx F W sb wb b lv M V D){e x:Edge}{l:Int}(hu:Upd (fun k=>k=b) W W')(hown:W'.ownsMap Tryz.prog 340 edgeElem b (V.length+1) (D.put (spotL f e l) (edgeD x)))
  (hf:1≤f∧f≤5) (he:e.ok) (h0:0≤l) (h1:l≤16) (hl:M.leads f e l=true) (hp:(f,e,l)∉V) (hx:GoodS lv f M e l x):StepCtx F W' sb wb b lv M (V++[(f,e,l)]) (D.put (spotL f e l) (edgeD x)):=by
 refine⟨h.rep.keep hu (fun k hk e=>by subst e;exact h.nF hk),hu.cellAt (h.neCell h.c0) h.c0,hu.cellAt (h.neCell h.c0) h.c1,hu.cellAt (h.neCell h.c0) h.c2,h.nF,h.nW,?_,h.memo.put hf he h0 h1 hl hp hx⟩
 rw [List.length_append]
 exact hown

def AtOut (F:Nat→Prop)(w:World)(sb wb b:Nat)(lv f:Int)(M:St)(V:List (Int×Edge×Int))(e:Edge)(l:Int)(r:Ending)(w':World):Prop:=
 ∃ (M':St) (x:Edge) (er:Int) (F':Nat→Prop),r=.returned (.tuple #[.agg #[.int .u8 x.tag,.int .u32 x.to],.int .u8 er])∧Swp lv f M e l M' x er (costS lv l)∧x.ok∧(er=0∨er=6) ∧
  Upd (fun j=>F j∨j=b) w w'∧(∀ j,F' j→F j∨w.heap.size≤j)∧StoreRep F' w' sb M' ∧
  (er=0→∃ V' D',StepCtx F' w' sb wb b lv M' V' D'∧V'.length+1≤V.length+2 ^ ((lv-l).toNat+1)∧∀ q∈V',q∈V∨l≤q.2.2)

section
variable {F:Nat→Prop}{w:World}{sb wb b:Nat}{lv f:Int}{M:St}{V:List (Int×Edge×Int)}{D:DataW Unit}

theorem at_same (h:StepCtx F w sb wb b lv M V D){e x:Edge}{l:Int}(hg:GoodS lv f M e l x){w':World}(hk:Keeps w w') :
  AtOut F w sb wb b lv f M V e l (.returned (.tuple #[.agg #[.int .u8 x.tag,.int .u32 x.to],.int .u8 0])) w':=
 ⟨M,x,0,F,rfl,⟨(Went.refl h.rep.wf).le (by have:=costS_pos (lv:=lv) (l:=l);omega),fun _=>hg,fun hh=>absurd rfl hh⟩,hg.ok,.inl rfl,Keeps.upd hk _,fun j hj=>.inl hj,h.rep.keeps hk,fun _=>⟨V,D,h.keeps hk,Nat.add_le_add_left (Nat.pow_pos (by decide)) _,fun q hq=>.inl hq⟩⟩

theorem at_full {e:Edge}{l:Int}{M2:St}{F2:Nat→Prop}{w6 w':World}{R:Nat}(hc:Swp lv f M e l M2 ⟨0,0⟩ 6 (costS lv l))(hu:Upd (fun j=>F j∨j=b) w w6)(hF2:∀ j,F2 j→F j∨w.heap.size≤j)(hS:StoreRep F2 w6 sb M2)
  (hw:Upd (fun j=>j=R) w6 w') (hR:¬F2 R) (hRw:w.heap.size≤R):AtOut F w sb wb b lv f M V e l (.returned (.tuple #[.agg #[.int .u8 (⟨0,0⟩:Edge).tag,.int .u32 (⟨0,0⟩:Edge).to],.int .u8 6])) w':=
 ⟨M2,_,6,F2,rfl,hc,edge0_ok,.inr rfl,hu.later hw (fun i hi hh=>by omega),hF2,hS.keep hw (fun k hk hh=>by subst hh;exact hR hk),fun hh=>by cases hh⟩

theorem at_good {e x:Edge}{l:Int}{M2:St}{V2:List (Int×Edge×Int)}{D2:DataW Unit}{F2:Nat→Prop}{w6 w':World}{R:Nat}(hc:Swp lv f M e l M2 x 0 (costS lv l))(hx:x.ok)(hu:Upd (fun j=>F j∨j=b) w w6)(hF2:∀ j,F2 j→F j∨w.heap.size≤j)(hC:StepCtx F2 w6 sb wb b lv M2 V2 D2)
  (hV:V2.length+1≤V.length+2 ^ ((lv-l).toNat+1)) (hN:∀ q∈V2,q∈V∨l≤q.2.2)
  (hw:Upd (fun j=>j=R) w6 w') (hR:¬F2 R) (hRw:w.heap.size≤R) (hb:R≠b) (hwb:R≠wb):AtOut F w sb wb b lv f M V e l (.returned (.tuple #[.agg #[.int .u8 x.tag,.int .u32 x.to],.int .u8 0])) w':=
 ⟨M2,_,0,F2,rfl,hc,hx,.inl rfl,hu.later hw (fun i hi hh=>by omega),hF2,hC.rep.keep hw (fun k hk hh=>by subst hh;exact hR hk),fun _=>⟨V2,D2,
  ⟨hC.rep.keep hw (fun k hk hh=>by subst hh;exact hR hk),hw.cellAt (fun hh=>hwb hh.symm) hC.c0,hw.cellAt (fun hh=>hwb hh.symm) hC.c1,hw.cellAt (fun hh=>hwb hh.symm) hC.c2,hC.nF,hC.nW,ownsSpot_same hC.own (hw.block b hC.lt.1 (fun hh=>hb hh.symm)),hC.memo⟩,hV,hN⟩⟩

end

end Go.Proofs.YtpgcbmbnognieaaGreat
