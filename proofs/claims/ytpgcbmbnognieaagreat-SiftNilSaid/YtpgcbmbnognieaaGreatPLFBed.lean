/-
  law27.bed.
-/
import Derived.Test.YtpgcbmbnognieaaGreatPSiftA
import Derived.Deep.AppendLies
namespace Go.Proofs.YtpgcbmbnognieaaGreat
set_option maxRecDepth 1000000
set_option maxHeartbeats 8000000
set_option linter.unusedSimpArgs false
set_option linter.unusedVariables false
open Go.RowKit

def IsTabs (w:World)(a:Option Addr)(p:Nat)(fs:List (Int×List Bool)):Prop:=
 ∀ i r,fs[i]?=some r→(1≤r.1∧r.1≤5)∧r.2.length=p∧∃ b off B,a=some ⟨b,off,none⟩∧w.cell? ⟨b,off+i*2,none⟩=some (.int .u8 r.1)∧w.cell? ⟨b,off+i*2+1,none⟩=some (.slice (some ⟨B,0,none⟩) p p)∧BoolsAt w B r.2

theorem boolsKeep {w w':World}{B:Nat}{bs:List Bool}(h:BoolsAt w B bs)(hk:Keeps w w'):BoolsAt w' B bs:=h.keep (Keeps.upd hk (fun _=>False)) (fun h=>h)

theorem IsTabs.keeps {w w':World}{a:Option Addr}{p:Nat}{fs:List (Int×List Bool)}(h:IsTabs w a p fs)(hk:Keeps w w'):IsTabs w' a p fs:=fun i r hr=>by
 obtain⟨h1,h2,b,off,B,ha,c0,c1,hB⟩:=h i r hr
 exact⟨h1,h2,b,off,B,ha,hk.cell c0,hk.cell c1,boolsKeep hB hk⟩

structure BoxB (F:Nat→Prop)(w0 wy:World)(sb:Nat)(M:St)(f:Int)(ps ws:List Int)(B:Nat)(x:Edge)(M':St)(F1:Nat→Prop):Prop where
 a0:wy.cell? ⟨B,0,none⟩=some (.int .u8 x.tag)
 a1:wy.cell? ⟨B,1,none⟩=some (.int .u32 x.to)
 ok:x.ok
 bt:BuiltAt f M' (hasB ws) ps 0 0 x
 grown:GrownBy M M' ((2 ^ ps.length-1:Nat):Int)
 upd:Upd F w0 wy
 rep:StoreRep F1 wy sb M'
 sub:∀ j,F1 j→F j∨w0.heap.size≤j
 nB:¬F1 B
 gB:w0.heap.size≤B

theorem boxB {F:Nat→Prop}{w0 W w2 wy:World}{sb:Nat}{M M':St}{f:Int}{ps ws:List Int}{B:Nat}{x:Edge}(hlt:∀ k,F k→k<w0.heap.size)(hW:Keeps w0 W)(hx:x.ok)(hb:BuiltAt f M' (hasB ws) ps 0 0 x)(hg:GrownBy M M' ((2 ^ ps.length-1:Nat):Int))(hst:Stood F W w2 sb M')
  (hG:Upd (fun k=>k=B∨k=B) w2 wy) (hB:w0.heap.size≤B∧(B<W.heap.size∨w2.heap.size≤B)) (a0:wy.cell? ⟨B,0,none⟩=some (.int .u8 x.tag)) (a1:wy.cell? ⟨B,1,none⟩=some (.int .u32 x.to)):∃ F1,BoxB F w0 wy sb M f ps ws B x M' F1:=by
 obtain⟨⟨F1,hS,hsub⟩,hu⟩:=hst
 have hs1:=hW.size
 have no:¬F1 B:=fun hh=>by
  have h1:=hS.lt B hh
  rcases hsub B hh with q|q
  ·have:=hlt B q;have:=hB.1;omega
  ·rcases hB.2 with q2|q2<;>omega
 refine⟨F1,a0,a1,hx,hb,hg,((Keeps.upd hW F).trans' hu).later hG (fun i hi hh=>?_),hS.keep hG (fun k hk hh=>?_),fun j hj=>?_,no,hB.1⟩
 ·have:=hB.1;rcases hh with rfl|rfl<;>omega
 ·rcases hh with rfl|rfl<;>exact no hk
 ·rcases hsub j hj with q|q
  ·exact .inl q
  ·exact .inr (by omega)

structure BedMid (Fo:Nat→Prop)(w wr:World)(sb ob:Nat)(room:Int)(ps:List Int)(fs:List (Int×List Bool))(d:Nat)(v:Value)(F:Nat→Prop)(M:St)(rs:List (Int×Edge)):Prop where
 sit:Sit F Fo wr sb ob M ps
 stand:StandAll M ps (fs.take d) rs
 len:M.len≤(d:Int)*31
 room:M.room=room
 row:wr.ownsRow w.heap.size 80 3 v d (rs.flatMap rootCs)
 apart:∀ k,v.ownBlock=some k→¬F k∧¬Fo k
 keeps:Keeps w wr
 lows:∀ k,F k∨Fo k→w.heap.size≤k

theorem bed27_calls (room:Int)(a1 a2:Option Addr)(cap1 cap2:Nat)(ps:List Int)(fs:List (Int×List Bool))(w:World)(hI:IntsAt w a1 ps)(hp:permB ps=true)(h5:ps.length≤5)(hT:IsTabs w a2 (2 ^ ps.length) fs)(h4:fs.length≤4)(h0:(fs.length:Int)*31≤room)(h1:room≤1000000) :
  Calls Tryz.prog 34 #[.int .i64 room,.slice a1 ps.length cap1,.slice a2 fs.length cap2] w fun e w'=>∃ (sb ob:Nat) (F Fo:Nat→Prop) (M:St) (a:Option Addr) (c:Nat) (rs:List (Int×Edge)),e=.returned (.tuple #[.pointer (some ⟨sb,0,none⟩),.pointer (some ⟨ob,0,none⟩),.slice a fs.length c,.bool true])∧BedMid Fo w w' sb ob room ps fs fs.length (.slice a fs.length c) F M rs:=by
 have hst:=stage_calls room a1 cap1 ps w hI hp (by omega) (by omega)
 have hp5:2 ^ ps.length≤2 ^ 5:=Nat.pow_le_pow_right (by decide) h5
 have e5:(2:Nat) ^ 5=32:=rfl
 rw [e5] at hp5
 have hp1:1≤2 ^ ps.length:=Nat.pow_pos (by decide)
 have hof:=fun(B:Nat) (bs:List Bool) (hbl:bs.length=2 ^ ps.length) (W:World) (hB:BoolsAt W B bs)=>by
  have:=setOf_calls (ps.length:Int) B (2 ^ ps.length) bs W hB (by omega) (by omega)
  rw [hbl] at this
  exact this
 have hbo:=fun(f:Int) (hf:1≤f∧f≤5) (F Fo:Nat→Prop) (W0 W:World) (sb ob:Nat) (M:St) (G:Nat) (bs:List Bool) (hbl:bs.length=2 ^ ps.length) (hS:Sit F Fo W0 sb ob M ps) (hW:Keeps W0 W) (hU:RowU W G (wordsL bs)) (hG:W0.heap.size≤G) (hroom:M.len+31≤M.room)=>by
  have hS':=hS.keeps hW
  have hwl:(wordsL bs).length≤1048576:=by rw [wordsL_len,hbl];omega
  have:=buildOf_calls hS'.rep hS'.ord hS'.dis hS'.n f (by simp [isFormB];omega) (some ⟨G,0,none⟩) (wordsL bs).length (wordsL bs).length rfl hwl (hU.words (fun x hx=>wordsL_range hx)) (fun b off e hh=>by cases e;have:=hS.rep.lt _ hh;omega) (setOkB_words (by omega) hbl) (by omega)
  exact upd_boxes (w0:=W0) (wc:=W0) (Q:=fun r w'=>BldOut f F W sb M (hasB (wordsL bs)) ps 0 0 r w') (R:=fun _=>True) hS.rep.lt (Nat.le_refl _) (this.mono (fun r w' hh=>⟨hh,by obtain⟨e,M',_,_,_,_,hst⟩:=hh;exact hst.upd,trivial⟩))
 obtain⟨i0,hi,hz0,hz1,hz2⟩:=info_parts info_root
 obtain⟨n,hn⟩:∃ n,n=ps.length:=⟨_,rfl⟩
 obtain⟨p,hpp⟩:∃ p,p=2 ^ n:=⟨_,rfl⟩
 obtain⟨N,hN⟩:∃ N,N=fs.length:=⟨_,rfl⟩
 rw [← hn] at hst hT hp5 hp1 ⊢
 simp only [← hn] at hof hbo
 rw [← hpp] at hT hp5 hp1
 simp only [← hpp] at hof hbo
 rw [← hN] at h4 h0 ⊢
 have HST:=Lib.hid hst
 have HOF:=Lib.hid hof
 have HBO:=Lib.hid hbo
 have HT:=Lib.hid hT
 have HNN:=Lib.hid hn
 have HN:=Lib.hid hN
 have HP:=Lib.hid hp
 have HPP:=Lib.hid hpp
 have HRM:=Lib.hid (⟨h0,h1⟩:_∧_)
 have h5n:n≤5:=by omega
 clear hst hof hbo hT hn hN hp hpp h5 h0 h1 hI
 go_enter Tryz.func34,Tryz.ntmps34
 go_wp2_with fail
 refine HST.out.mono ?_
 rintro e w1 ⟨sb,ob,F,Fo,rfl,hk1,hS,hO,hdis,hFl,hFo⟩
 have hmid:BedMid Fo w w1 sb ob room ps fs 0 (.slice none 0 0) F (St.new (n:Int) room) []:=⟨⟨hS,hO,hdis,by show(n:Int)=_;rw [HNN.out],by show room<1048576;have:=HRM.out.2;omega⟩,⟨rfl,fun i q r h1 h2=>by cases h2⟩,by show(0:Int)≤0*31;decide,rfl,World.ownsRow_nil _ _ _ _,(fun k hk=>by simp [Value.ownBlock] at hk),hk1,fun k hk=>by rcases hk with q|q;exact hFl k q;exact hFo k q⟩
 have HMID:=Lib.hid hmid
 clear hk1 hS hO hdis hFl hFo hmid HST
 go_wp2_with fail
 go_loopg [13,14] N (fun gk s13 s14 wr=>∃ (d:Nat) (a:Option Addr) (c:Nat) (F:Nat→Prop) (M:St) (rs:List (Int×Edge)),s13=.slice a d c∧s14=.int .i64 (d:Int)∧d+gk=N∧BedMid Fo w wr sb ob room ps fs d (.slice a d c) F M rs)
 case atStart=>exact⟨0,none,0,F,_,[],rfl,rfl,by omega,HMID.out⟩
 case round=>
  clear HMID
  obtain⟨d,a,c,F1,M1,rs1,rfl,rfl,hd,hmid⟩:=hrel
  by_cases hlt:d<N
  ·obtain⟨r,hx⟩:∃ r,fs[d]?=some r:=⟨_,List.getElem?_eq_getElem (by rw [← HN.out];exact hlt)⟩
   obtain⟨hf,htl,b,off,B0,rfl,c0,c1,hB0⟩:=(HT.out.keeps hmid.keeps) d r hx
   obtain⟨b',off',B0',e0,c0',-,-⟩:=(HT.out d r hx).2.2
   cases e0
   have lbw:b<w.heap.size:=by have:=lt_of_cell c0';simpa using this
   have szw:=hmid.keeps.size
   have nF1:∀ k,k<w.heap.size→¬F1 k:=fun k hk hh=>by have:=hmid.lows k (.inl hh);omega
   have nb:¬F1 b:=nF1 b lbw
   have hroom:M1.len+31≤M1.room:=by
    have h1:=hmid.len
    have h2:=HRM.out.1
    rw [hmid.room]
    omega
   obtain⟨f,ts⟩:=r
   dsimp only at hf htl c0 c1 hB0
   have hof1:=fun(W:World) (hW:Keeps wr W)=>upd_boxes (F:=fun _=>False) (w0:=wr) (wc:=wr) (Q:=fun e w'=>∃ g,W.heap.size≤g∧e=.returned (.agg #[.int .i64 (n:Int),.slice (some ⟨g,0,none⟩) (wordsL ts).length (wordsL ts).length])∧RowU w' g (wordsL ts)) (R:=fun w'=>Keeps W w') (fun _ h=>h.elim) (Nat.le_refl _)
    ((HOF.out B0 ts htl W (boolsKeep hB0 hW)).mono (fun e w' ⟨g,h1,h2,h3,h4⟩=>⟨⟨g,h1,h2,h3⟩,h4.upd _,h4⟩))
   have HOF1:=Lib.hid hof1
   clear hof1
   have HBO1:=Lib.hid (fun(W:World) (G:Nat) (hW:Keeps wr W) (hU:RowU W G (wordsL ts)) (hG:wr.heap.size≤G)=>HBO.out f hf F1 Fo wr W sb ob M1 G ts htl hmid.sit hW hU hG hroom)
   have HMID:=Lib.hid hmid
   have HX:=Lib.hid hx
   have HF:=Lib.hid hf
   have HLT:=Lib.hid hmid.sit.rep.lt
   have m1:wr.heap.size≠b:=by omega
   have HTL:=Lib.hid htl
   clear hmid hx hf c0' hB0 htl hroom
   go_wp2_with fail
   go_cut [15,16] (fun s15 s16 wx=>∃ B x M2 F2,s15=.pointer (some ⟨B,0,none⟩)∧s16=.int .u8 0∧BoxB F1 wr wx sb M1 f ps (wordsL ts) B x M2 F2)
   case first=>
    go_region_held3 (fun w'=>w'.cell? ⟨b,off+d*2,none⟩=some (.int .u8 f)∧w'.cell? ⟨b,off+d*2+1,none⟩=some (.slice (some ⟨B0,0,none⟩) p p)) (go_keep) ((first
     | (go_at_call 91;refine(HOF1.out _ (by(exact kp))).mono ?_;rintro e2 w2 ⟨⟨⟨g2,hg2,rfl,hu2⟩,-,hk2⟩,hcl2,hfl2,hlq2,hne2,hnf2⟩;have HU2:=Lib.hid hu2;have hsz2:=hk2.size;(try simp only [World.size_alloc,World.size_drew,World.size_drewN] at hsz2 hg2);have y0:=hk2.cell (a:=⟨b,off+d*2,none⟩) (v:=.int .u8 f) (by go_keep);have y1:=hk2.cell (a:=⟨b,off+d*2+1,none⟩) (v:=.slice (some ⟨B0,0,none⟩) p p) (by go_keep);have sa2:w2.heap.size≠b:=(by omega);clear hu2)
     | (go_at_call 90;refine(HBO1.out _ g2 (by(exact kp)) (HU2.out.keeps (by(exact kp))) (by omega)).mono ?_;rintro e3 w3 ⟨⟨⟨x,M2,rfl,hxo,hbt,⟨hgr,-⟩,hst3⟩,hu3,-⟩,hcl,hfl,hlq,hne,hnf⟩;have hsz3:=hu3.size;(try simp only [World.size_alloc,World.size_drew,World.size_drewN] at hsz3);have y0:=hu3.cellAt (b:=b) (o:=off+d*2) (v:=.int .u8 f) nb (by go_keep);have y1:=hu3.cellAt (b:=b) (o:=off+d*2+1) (v:=.slice (some ⟨B0,0,none⟩) p p) nb (by go_keep);have sa3:w3.heap.size≠b:=(by omega))))
    all_goals(try go_wp2_with fail)
    all_goals go_meet
    all_goals refine(fun hbx=>Exists.elim hbx (fun F1' hb=>⟨_,x,M2,F1',rfl,rfl,hb⟩)) (boxB HLT.out (by(exact kp)) hxo hbt hgr hst3 ?_ ?_ ?_ ?_)
    all_goals(try(simp [go_sem];done))
    all_goals(try(first|omega|(simp only [World.size_alloc,World.size_drew,World.size_setCell];omega)))
    all_goals(try(repeat (first|with_reducible exact Upd.refl _ _|with_reducible refine Upd.alloc ?_ _|with_reducible refine Upd.drew ?_|refine Upd.setCell ?_ (Or.inl (Or.inl rfl)) _|refine Upd.setCell ?_ (Or.inl (Or.inr rfl)) _)))
    all_goals(first
     | (have z0:w3.cell? ⟨w2.heap.size,0,none⟩=some (.int .u8 0):=(hcl _ _ (by omega) (by simp)).trans (by simp [go_sem]);have z1:w3.cell? ⟨w2.heap.size,1,none⟩=some (.int .u32 0):=(hcl _ _ (by omega) (by simp)).trans (by simp [go_sem]);simp [go_sem,z0,z1];done)
     | (have z0:w3.cell? ⟨wr.heap.size,0,none⟩=some (.int .u8 0):=(hcl _ _ (Nat.le_refl _) (by omega)).trans ((hcl2 _ _ (Nat.le_refl _) (by simp)).trans (by simp [go_sem]));have z1:w3.cell? ⟨wr.heap.size,1,none⟩=some (.int .u32 0):=(hcl _ _ (Nat.le_refl _) (by omega)).trans ((hcl2 _ _ (Nat.le_refl _) (by simp)).trans (by simp [go_sem]));simp [go_sem,z0,z1];done))
   case rest=>
    obtain⟨W2,rfl⟩:∃ W,W=wc:=⟨_,rfl⟩
    obtain⟨B,x,M2,F2,rfl,rfl,hBx⟩:=hcut
    replace c0:=hBx.upd.cellAt nb c0
    have x0:=hBx.a0
    have x1:=hBx.a1
    have hs2:=hBx.upd.size
    have hrow:=hBx.upd.owns (fun k hk hh=>(HMID.out.apart k hk).1 hh) HMID.out.row
    have HROW:=Lib.hid hrow
    have hob:∀ k,Value.ownBlock (.slice a d c)=some k→k<wr.heap.size:=fun k hk=>by
     rcases HMID.out.row.2 with⟨e0,_⟩|⟨g',cap',cur,e0,hbg,hc,_⟩
     ·rw [e0] at hk;simp [Value.ownBlock] at hk
     ·rw [e0] at hk;simp [Value.ownBlock] at hk;subst hk;exact lt_of_heap hc
    have nb2:(Value.slice a d c).ownBlock≠some b:=fun hh=>by have:=owns_from HROW.out hh;omega
    have gB:=hBx.gB
    have nbB:(Value.slice a d c).ownBlock≠some B:=fun hh=>by have:=hob B hh;omega
    have lB:=lt_of_cell x0
    dsimp only at lB
    have m3:W2.heap.size≠b:=by omega
    have m4:W2.heap.size≠B:=by omega
    have q1:d+1≤maxLen:=by unfold maxLen;omega
    have hbase:w.heap.size≤W2.heap.size:=by omega
    have HBX:=Lib.hid hBx
    have HOB:=Lib.hid hob
    have hfin:∀ (g cap:Nat) (wx:World),wx.ownsRow w.heap.size 80 3 (.slice (some ⟨g,0,none⟩) (d+1) cap) (d+1) (rs1.flatMap rootCs++rootCs (f,x))→Upd (fun k=>(Value.slice a d c).ownBlock=some k) W2 wx→((Value.slice a d c).ownBlock=some g∨W2.heap.size≤g)→BedMid Fo w wx sb ob room ps fs (d+1) (.slice (some ⟨g,0,none⟩) (d+1) cap) F2 M2 (rs1++[(f,x)]):=fun g cap wx h1 h2 h3=>by
     have hm:=HMID.out
     have hpl:=HP.out
     have hnF2:∀ k,(Value.slice a d c).ownBlock=some k→¬F2 k:=fun k hk hh=>by
      rcases hBx.sub k hh with q|q
      ·exact(hm.apart k hk).1 q
      ·have:=hob k hk;omega
     have hex:=hBx.grown.ext
     have hn':M2.n=(ps.length:Int):=by rw [hex.n];exact hm.sit.n
     have hdis:∀ k,F2 k→¬Fo k:=fun k g1 g2=>by
      rcases hBx.sub k g1 with q|q
      ·exact hm.sit.dis k q g2
      ·have:=hm.sit.ord.lt k g2;omega
     have hord:OrdRep Fo W2 ob ps:=hm.sit.ord.keep hBx.upd (fun k g1 g2=>hm.sit.dis k g2 g1)
     refine⟨⟨hBx.rep.keep h2 (fun k g1 g2=>hnF2 k g2 g1),hord.keep h2 (fun k g1 g2=>(hm.apart k g2).2 g1),hdis,hn',by rw [hBx.grown.room];exact hm.sit.room⟩,?_,?_,by rw [hBx.grown.room];exact hm.room,by rw [List.flatMap_append];simpa using h1,fun k hk=>?_,?_,fun k hk=>?_⟩
     ·have htk:=take_snoc HX.out
      refine⟨by rw [htk,List.length_append,List.length_append,hm.stand.1];rfl,fun i q r g1 g2=>?_⟩
      by_cases hid:i<rs1.length
      ·rw [List.getElem?_append_left hid] at g2
       rw [htk,List.getElem?_append_left (by rw [← hm.stand.1];exact hid)] at g1
       obtain⟨j1,j2,j3⟩:=hm.stand.2 i q r g1 g2
       exact⟨j1,j2,j3.ext hm.sit.rep.wf hex⟩
      ·rw [List.getElem?_append_right (by omega)] at g2
       rw [htk,List.getElem?_append_right (by rw [← hm.stand.1];omega),← hm.stand.1] at g1
       have h0:i-rs1.length=0:=by
        have:=(List.getElem?_eq_some_iff.1 g2).1
        simp at this
        omega
       rw [h0] at g1 g2
       cases g1
       cases g2
       exact⟨rfl,HF.out,built_stands hBx.rep.wf HF.out hpl hn' hBx.ok hBx.bt⟩
     ·have hl:=hBx.grown.len
      have hle:2 ^ ps.length≤2 ^ 5:=Nat.pow_le_pow_right (by decide) (by rw [← HNN.out];exact h5n)
      have e5:(2:Nat) ^ 5=32:=rfl
      have:=hm.len
      omega
     ·simp [Value.ownBlock] at hk
      subst hk
      rcases h3 with q|q
      ·exact⟨hnF2 _ q,(hm.apart _ q).2⟩
      ·exact⟨fun hh=>by have:=hBx.rep.lt _ hh;omega,fun hh=>by have:=hm.sit.ord.lt _ hh;omega⟩
     ·exact(hm.keeps.new hBx.upd (fun k hk=>hm.lows k (.inl hk))).new h2 (fun k hk=>owns_from HROW.out hk)
     ·rcases hk with hk|hk
      ·rcases hBx.sub k hk with q|q
       ·exact hm.lows k (.inl q)
       ·omega
      ·exact hm.lows k (.inr hk)
    have HFIN:=Lib.hid hfin
    clear hBx hrow hob hfin
    go_wp2_with fail
    go_region_held3 (fun w'=>w'.cell? ⟨b,off+d*2,none⟩=some (.int .u8 f)∧w'.cell? ⟨B,0,none⟩=some (.int .u8 x.tag)∧w'.cell? ⟨B,1,none⟩=some (.int .u32 x.to)) (go_keep) ((refine step_append_lies _ rfl (.tmp 54) (.tmp 62) 63 rfl w.heap.size 80 i0 _ 3 12 Tryz.underlying63 hi hz0 hz1 hz2 rfl (by decide) (.slice a d c) d (rs1.flatMap rootCs) rfl ?_ _ 1 1 (rootCs (f,x)) rfl rfl ?_ ?_ (by decide) ?_ ?_ ?_ _ rfl ?_;exact Keeps.owns (show Keeps W2 _ by(exact kp)) HROW.out;(first|exact cell_new _ _ _ _ (by simp)|exact cell_newd _ _ _ _ (by simp));(intro u hu;simp [rootCs] at hu;rcases hu with rfl|rfl|rfl<;>rfl);exact q1;omega;(simp;omega);intro g5 cap5 w5 hown5 hgrow hgg hgl;have t0:=grown_cell (b:=b) (o:=off+d*2) (v:=.int .u8 f) hgrow nb2 (by go_keep);have t1:=grown_cell (b:=B) (o:=0) (v:=.int .u8 x.tag) hgrow nbB (by go_keep);have t2:=grown_cell (b:=B) (o:=1) (v:=.int .u32 x.to) hgrow nbB (by go_keep)))
    all_goals(try go_wp2_with fail)
    all_goals go_roundg (gk-1)
    case rel=>
     refine⟨d+1,some ⟨g5,0,none⟩,cap5,F2,M2,rs1++[(f,x)],rfl,by simp,by omega,HFIN.out g5 cap5 _ hown5 (Upd.grown (by repeat (first|exact Upd.refl _ _|refine Upd.alloc ?_ _|refine Upd.drew ?_)) hgrow (fun k hk=>.inl hk)) ?_⟩
     rcases hgg with q|q
     ·exact .inl q
     ·right
      rw [q]
      simp
    case measure=>omega
  ·have hdN:d=N:=by omega
   subst hdN
   have HMID:=Lib.hid hmid
   clear hmid
   go_wp2_with fail
   refine bodyPost_ret (v:=.tuple #[.pointer (some ⟨sb,0,none⟩),.pointer (some ⟨ob,0,none⟩),.slice a d c,.bool true]) (by simp [results,Tryz.results34,go_sem]) rfl ?_
   exact⟨sb,ob,F1,Fo,M1,a,c,rs1,rfl,HMID.out⟩

end Go.Proofs.YtpgcbmbnognieaaGreat
