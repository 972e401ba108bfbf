/-
  A store and an order beside each other: another order, and what is built.
-/
import Derived.Test.YtiifimnpmbfihaaGreatPSwapY
import Derived.Test.YtiifimnpmbfihaaGreatPTwiceS
namespace Go.Proofs.YtiifimnpmbfihaaGreat
set_option linter.unusedSimpArgs false
set_option linter.unusedVariables false
set_option maxHeartbeats 600000
open Go.RowKit

theorem sit_permute {F Fo:Nat → Prop} {w:World} {sb ob:Nat} {M:St} {ps qs:List Int} {rs:List (Int × Edge)} (hS:Sit F Fo w sb ob M ps) (h5:ps.length ≤ 5) (hql:qs.length=ps.length) (hqp:permB qs=true) (a2:Option Addr) (cap2:Nat) (hQ:∀ W,Upd (fun j=>F j ∨ Fo j) w W → IntsAt W a2 qs) (a3:Option Addr) (cap3:Nat) (hR:RootsIn F Fo w a3 rs) (hrl:rs.length=2)
  (hlead:∀ r ∈ rs,(1 ≤ r.1 ∧ r.1 ≤ 5) ∧ M.leads r.1 r.2 0=true) (hroom:M.len + 3100 < M.room) :
  Calls Tryz.prog 46 #[.pointer (some ⟨sb,0,none⟩),.pointer (some ⟨ob,0,none⟩),.slice a2 ps.length cap2,.slice a3 2 cap3] w fun r w'=>∃ g es M' F' ss,r=.returned (.tuple #[.slice (some ⟨g,0,none⟩) 2 2,.int .u8 0]) ∧ runL ps ss=qs ∧ Stepped F Fo w sb ob M ps ss rs w' g es M' F' ∧ M'.len ≤ M.len + 3100:=by
 have hn:=hS.n
 have hpp:ps.length * ps.length ≤ 5 * 5:=Nat.mul_le_mul h5 h5
 have:=permute_calls (c:=62) hS.rep hS.ord hS.dis a2 a3 cap2 cap3 hQ (by omega) hR (by omega) (cost62 (n:=M.n) (by omega)) (by decide) (fun _ k hk=>by
  have h2:k * rs.length ≤ 25 * 2:=Nat.mul_le_mul (by omega) (by omega)
  omega) hS.room
 have e:permCode M ps.length qs rs=0:=by unfold permCode;rw [if_pos hn,if_pos ⟨hql.symm,hqp⟩];exact mayL_ok hS.rep.wf hlead
 rw [e,hql,hrl] at this
 refine this.mono fun r w' hh=>?_
 rcases hh with ⟨hc,_⟩ | ⟨_,ss,hrun,_,hfew,hh⟩
 ·exact absurd rfl hc
 ·obtain ⟨g,es,M',F',he,hst⟩:=hh.stepped hS
  rw [hrl] at he
  have hl:=hst.went.len
  have h2:ss.length * rs.length ≤ 25 * 2:=Nat.mul_le_mul (by omega) (by omega)
  exact ⟨g,es,M',F',ss,he,hrun,hst,by omega⟩

theorem sit_built {F Fo:Nat → Prop} {W w':World} {sb ob:Nat} {M M':St} {ps:List Int} {k:Int} (hS:Sit F Fo W sb ob M ps) (hg:GrownBy M M' k) (hst:Stood F W w' sb M'):∃ F',Sit F' Fo w' sb ob M' ps ∧ (∀ j,F' j → F j ∨ W.heap.size ≤ j) ∧ Upd (fun j=>F j ∨ Fo j) W w':=by
 obtain ⟨⟨F',r,sub⟩,u⟩:=hst
 refine ⟨F',⟨r,hS.ord.keep u (fun k h1 h2=>hS.dis k h2 h1),fun k h1 h2=>?_,by rw [hg.ext.n];exact hS.n,by rw [hg.room];exact hS.room⟩,sub,u.mono (fun k _ h=>.inl h)⟩
 rcases sub k h1 with q | q
 ·exact hS.dis k q h2
 ·have:=hS.ord.lt k h2;omega

structure Stands (M:St) (f:Int) (ps:List Int) (has:Nat → Bool) (x:Edge):Prop where
 ok:x.ok
 lead:M.leads f x 0=true
 right:rightK M f x 0
 tab:tabP M ps f x=hasT ps.length has

theorem Stands.ext {M M':St} {f:Int} {ps:List Int} {has:Nat → Bool} {x:Edge} (h:Stands M f ps has x) (hw:M.wf) (hE:Ext M M'):Stands M' f ps has x:=
 ⟨h.ok,hE.leads h.lead,rightK_ext hE hw h.right,by rw [tabP_ext hw hE h.lead];exact h.tab⟩

theorem built_stands {M:St} {f:Int} {ps:List Int} {has:Nat → Bool} {x:Edge} (hw:M.wf) (hf:1 ≤ f ∧ f ≤ 5) (hp:permB ps=true) (hn:M.n=(ps.length:Int)) (hx:x.ok) (h:BuiltAt f M has ps 0 0 x):Stands M f ps has x:=
 ⟨hx,h.1.leads hw hf (by omega),h.2,tabP_hasT hp hn (h.1.means hw hf _ _ _ _ (by omega) (Int.le_refl _))⟩

theorem root_stands {n:Nat} {ss:List Nat} {M M':St} {f:Int} {ps qs:List Int} {has:Nat → Bool} {x y:Edge} (h:Stands M f ps has x) (hl:ps.length=n) (hr:RootOk n ss M M' f x y) (hrun:runL ps ss=qs):Stands M' f qs has y:=by
 have ht:=hr.tab ps hl
 rw [hrun] at ht
 have hq:qs.length=ps.length:=by rw [← hrun,runL_len]
 exact ⟨hr.ok,hr.lead,hr.right h.right,by rw [ht,h.tab,hq]⟩

theorem stands_one {M:St} {f:Int} {ps:List Int} {has has':Nat → Bool} {x y:Edge} (hw:M.wf) (hfit:Fit0 M) (hf:1 ≤ f ∧ f ≤ 5) (hp:permB ps=true) (hn:M.n=(ps.length:Int)) (h5:ps.length ≤ 5) (hlen:M.len + 64 ≤ 1048576) (h:Stands M f ps has x) (h':Stands M f ps has' y) (he:hasT ps.length has=hasT ps.length has'):x=y:=by
 have hp5:2 ^ ps.length ≤ 2 ^ 5:=Nat.pow_le_pow_right (by decide) h5
 have e5:(2:Nat) ^ 5=32:=rfl
 have ht:=tabE_of_tabP hp hn (h.tab.trans (he.trans h'.tab.symm))
 exact right_one (k:=ps.length) hf hw (by omega) h.ok.2.1 h'.ok.2.1 hfit h.lead h'.lead h.right h'.right (Int.le_refl _) (by omega) ht

theorem stands_text {F:Nat → Prop} {w:World} {sb:Nat} {M:St} {f:Int} {ps:List Int} {has:Nat → Bool} {x:Edge} (hS:StoreRep F w sb M) (hf:1 ≤ f ∧ f ≤ 5) (hp:permB ps=true) (hn:M.n=(ps.length:Int)) (h5:ps.length ≤ 5) (hlen:M.len + 64 ≤ 1048576) (h:Stands M f ps has x):unfS f M (ps.length + 1) x=termK f ps.length (bldT has ps 0) 0:=by
 have hp5:2 ^ ps.length ≤ 2 ^ 5:=Nat.pow_le_pow_right (by decide) h5
 have e5:(2:Nat) ^ 5=32:=rfl
 rw [right_text hf (hS.fine f (by omega)) h.lead h.right h.ok.2.1 hS.fit0 hn (by omega),tabE_hasT hp hn h.tab]

set_option maxHeartbeats 1000000 in
theorem terms_back {F4 Fo:Nat → Prop} {w0 w14 wB:World} {sb ob gx bx by':Nat} {M4:St} {ps qs:List Int} {f g:Int} {x y z l1:Edge} {es:List Edge} {has1 has2:Nat → Bool} (hS:Sit F4 Fo w14 sb ob M4 qs) (hE:EdgesIn F4 Fo w14 (some ⟨gx,0,none⟩) es) (hl0:es[0]?=some z) (hl1:es[1]?=some l1)
  (hz:Stands M4 f qs has1 z) (hl:Stands M4 g qs has2 l1) (hx:Stands M4 f ps has1 x) (hy:Stands M4 g ps has2 y) (hf:1 ≤ f ∧ f ≤ 5) (hg:1 ≤ g ∧ g ≤ 5) (hp:permB ps=true) (hq:permB qs=true) (hql:qs.length=ps.length) (h5:ps.length ≤ 5) (hlen:M4.len ≤ 3193) (hroom:M4.room=12000)
  (k0:Keeps w0 w14) (hlow:∀ k,F4 k ∨ Fo k → w0.heap.size ≤ k) {a1:Option Addr} (hps:IntsAt w0 a1 ps) (cap1:Nat) (nx:¬ (F4 bx ∨ Fo bx)) (ny:¬ (F4 by' ∨ Fo by')) (kB:Keeps w14 wB)
  (x0:wB.cell? ⟨bx,0,none⟩=some (.int .u8 x.tag)) (x1:wB.cell? ⟨bx,1,none⟩=some (.int .u32 x.to)) (y0:wB.cell? ⟨by',0,none⟩=some (.int .u8 y.tag)) (y1:wB.cell? ⟨by',1,none⟩=some (.int .u32 y.to)) :
  ∀ (W:World) (B:Nat),Keeps wB W → wB.heap.size ≤ B → W.cell? ⟨B,0,none⟩=some (.int .u8 f) → W.cell? ⟨B,1,none⟩=some (.int .u8 z.tag) → W.cell? ⟨B,2,none⟩=some (.int .u32 z.to) → W.cell? ⟨B,3,none⟩=some (.int .u8 g) → W.cell? ⟨B,4,none⟩=some (.int .u8 l1.tag) → W.cell? ⟨B,5,none⟩=some (.int .u32 l1.to) →
   Calls Tryz.prog 46 #[.pointer (some ⟨sb,0,none⟩),.pointer (some ⟨ob,0,none⟩),.slice a1 ps.length cap1,.slice (some ⟨B,0,none⟩) 2 2] W fun r w'=>∃ g4,r=.returned (.tuple #[.slice (some ⟨g4,0,none⟩) 2 2,.int .u8 0]) ∧
    (w'.cell? ⟨g4,0,none⟩=some (.int .u8 x.tag) ∧ w'.cell? ⟨g4,1,none⟩=some (.int .u32 x.to) ∧ w'.cell? ⟨g4,2,none⟩=some (.int .u8 y.tag) ∧ w'.cell? ⟨g4,3,none⟩=some (.int .u32 y.to)) ∧
    (w'.cell? ⟨bx,0,none⟩=some (.int .u8 x.tag) ∧ w'.cell? ⟨bx,1,none⟩=some (.int .u32 x.to) ∧ w'.cell? ⟨by',0,none⟩=some (.int .u8 y.tag) ∧ w'.cell? ⟨by',1,none⟩=some (.int .u32 y.to)) ∧
    (w'.cell? ⟨gx,0,none⟩=some (.int .u8 z.tag) ∧ w'.cell? ⟨gx,1,none⟩=some (.int .u32 z.to) ∧ w'.cell? ⟨gx,2,none⟩=some (.int .u8 l1.tag) ∧ w'.cell? ⟨gx,3,none⟩=some (.int .u32 l1.to)) ∧
    OrdRep Fo w' ob ps ∧ Keeps w0 w' ∧ W.heap.size ≤ w'.heap.size:=by
 intro W B hW hB r0 r1 r2 r3 r4 r5
 have sB:=kB.size
 have kW:=kB.trans hW
 have nB:¬ (F4 B ∨ Fo B):=fun hh=>by
  rcases hh with hh | hh
  ·have:=hS.rep.lt _ hh;omega
  ·have:=hS.ord.lt _ hh;omega
 have hRI:RootsIn F4 Fo W (some ⟨B,0,none⟩) [(f,z),(g,l1)]:=fun W' hW' i r hr=>by
  rcases i with _ | _ | i
  ·simp at hr;subst hr
   exact ⟨by show 0 ≤ f ∧ f ≤ 255;omega,hz.ok,_,0,rfl,hW'.cellAt nB r0,hW'.cellAt nB r1,hW'.cellAt nB r2⟩
  ·simp at hr;subst hr
   exact ⟨by show 0 ≤ g ∧ g ≤ 255;omega,hl.ok,_,0,rfl,hW'.cellAt nB r3,hW'.cellAt nB r4,hW'.cellAt nB r5⟩
  ·simp at hr
 have k0W:=k0.trans kW
 have hlead:∀ r ∈ [(f,z),(g,l1)],(1 ≤ r.1 ∧ r.1 ≤ 5) ∧ M4.leads r.1 r.2 0=true:=fun r hr=>by
  simp at hr
  rcases hr with rfl | rfl
  ·exact ⟨hf,hz.lead⟩
  ·exact ⟨hg,hl.lead⟩
 have hcall:=sit_permute (qs:=ps) (hS.keeps kW) (by omega) hql.symm hp a1 cap1 (fun W' hW'=>hps.keeps (k0W.new hW' hlow)) (some ⟨B,0,none⟩) 2 hRI rfl hlead (by omega)
 rw [hql] at hcall
 refine hcall.mono ?_
 rintro e w' ⟨g4,es5,M5,F5,ss,rfl,hrun,hst,hl5⟩
 have hel:=hst.roots.1
 obtain ⟨u0,hu0⟩:∃ b,es5[0]?=some b:=⟨_,List.getElem?_eq_getElem (by rw [hel];simp)⟩
 obtain ⟨u1,hu1⟩:∃ b,es5[1]?=some b:=⟨_,List.getElem?_eq_getElem (by rw [hel];simp)⟩
 have hs0:=root_stands hz rfl (hst.roots.2 0 (f,z) u0 rfl hu0) hrun
 have hs1:=root_stands hl rfl (hst.roots.2 1 (g,l1) u1 rfl hu1) hrun
 have sit5:=hst.sit
 rw [hrun] at sit5
 have hw4:=hS.rep.wf
 have hx5:=hx.ext hw4 hst.went.ext
 have hy5:=hy.ext hw4 hst.went.ext
 have e0:u0=x:=stands_one sit5.rep.wf sit5.rep.fit0 hf hp sit5.n h5 (by omega) hs0 hx5 rfl
 have e1:u1=y:=stands_one sit5.rep.wf sit5.rep.fit0 hg hp sit5.n h5 (by omega) hs1 hy5 rfl
 subst e0
 subst e1
 obtain ⟨_,_,_,ea,d0,d1⟩:=hst.edges.now 0 _ hu0
 cases ea
 obtain ⟨_,_,_,ea,d2,d3⟩:=hst.edges.now 1 _ hu1
 cases ea
 obtain ⟨_,_,_,ea,c0,c1⟩:=(hE.keeps kW) w' hst.upd 0 _ hl0
 cases ea
 obtain ⟨_,_,_,ea,c2,c3⟩:=(hE.keeps kW) w' hst.upd 1 _ hl1
 cases ea
 simp only [Nat.zero_mul,Nat.zero_add,Nat.one_mul] at c0 c1 c2 c3 d0 d1 d2 d3
 exact ⟨g4,rfl,⟨d0,d1,d2,d3⟩,⟨hst.upd.cellAt nx (hW.cell x0),hst.upd.cellAt nx (hW.cell x1),hst.upd.cellAt ny (hW.cell y0),hst.upd.cellAt ny (hW.cell y1)⟩,⟨c0,c1,c2,c3⟩,sit5.ord,k0W.new hst.upd hlow,hst.upd.size⟩

end Go.Proofs.YtiifimnpmbfihaaGreat
