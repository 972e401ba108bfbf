/-
  sift.made.
-/
import Derived.Test.YtpgcbmbnognieaaGreatPSiftA
import Derived.Deep.AppendLies
namespace Go.Proofs.YtpgcbmbnognieaaGreat
set_option maxRecDepth 1000000
set_option maxHeartbeats 8000000
set_option linter.unusedSimpArgs false
set_option linter.unusedVariables false
open Go.RowKit

theorem rowR_owns {w:World}{base g N cap:Nat}{rs:List (Int×Edge)}(h:w.ownsRow base 80 3 (.slice (some ⟨g,0,none⟩) N cap) N (rs.flatMap rootCs))(hN:N=rs.length):RowR w (some ⟨g,0,none⟩) g rs:=fun hne=>by
 refine⟨rfl,?_⟩
 rcases h.2 with⟨e0,_⟩|⟨g',cap',cur,e0,hb,hg,_,_,_,ht⟩
 ·cases e0
 ·cases e0
  refine⟨cur,hg,fun i r hr=>?_⟩
  have hi:=(List.getElem?_eq_some_iff.1 hr).1
  have key:∀ t,t<3→cur[i*3+t]?=(rootCs r)[t]?:=fun t ht3=>by
   rw [← flat_get rootCs 3 (fun _=>rfl) rs i t r hr ht3,← ht,List.getElem?_take,if_pos (by omega),Array.getElem?_toList]
  exact⟨key 0 (by omega),key 1 (by omega),key 2 (by omega)⟩

theorem roots_news {w:World}{b off:Nat}{rs:List (Int×Edge)}(hR:IsRoots w (some ⟨b,off,none⟩) rs)(j:Nat)(u:Value)(h:(rs.flatMap rootCs)[j]?=some u):w.cell? ⟨b,off+j,none⟩=some u:=by
 have hl:(rs.flatMap rootCs).length=rs.length*3:=by
  clear hR h
  induction rs with
  | nil=>rfl
  | cons r rs ih=>rw [List.flatMap_cons,List.length_append,ih,List.length_cons];show 3+_=_;omega
 have hj:=(List.getElem?_eq_some_iff.1 h).1
 rw [hl] at hj
 have hi:j / 3<rs.length:=by omega
 have hr:rs[j / 3]?=some rs[j / 3]:=List.getElem?_eq_getElem hi
 obtain⟨h1,h2,b',off',e,c0,c1,c2⟩:=hR _ _ hr
 cases e
 have hx:=flat_get rootCs 3 (fun _=>rfl) rs (j / 3) (j%3) _ hr (by omega)
 rw [show j / 3*3+j%3=j by omega,h] at hx
 have hm:j%3=0∨j%3=1∨j%3=2:=by omega
 rcases hm with q|q|q
 ·rw [q] at hx
  rw [show off+j=off+j / 3*3 by omega,c0]
  exact hx.symm
 ·rw [q] at hx
  rw [show off+j=off+j / 3*3+1 by omega,c1]
  exact hx.symm
 ·rw [q] at hx
  rw [show off+j=off+j / 3*3+2 by omega,c2]
  exact hx.symm

theorem made_bed {F Fo:Nat→Prop}{w w3 W w':World}{sb ob bb lb cap:Nat}{la:Option Addr}{M:St}{ps:List Int}{fs:List (Int×List Bool)}{rs:List (Int×Edge)}(hS:Sit F Fo w sb ob M ps)(hp:permB ps=true)(h6:ps.length≤6)(h4:fs.length≤4)(hroom:(fs.length:Int)*300<M.room)(hvast:M.room≤1000000)(hst:StandAll M ps fs rs)
  (k3:Keeps w w3) (hrow:RowR w3 la lb rs) (hc:BedCells W bb la fs.length cap sb ob) (k4:Keeps w3 W) (hbb:w3.heap.size≤bb) (hlb:w.heap.size≤lb) (hlw:lb<w3.heap.size)
  (hU:Upd F W w') (hS2:StoreRep (Grow F W w') w' sb (sweepSt M ((rs.map Prod.snd).map Edge.to))):BedAt F Fo (fun _=>False) w w' bb lb la cap sb ob ps fs:=by
 have hrep:=hS.rep
 have hlt:=hrep.lt
 have hlo:=hS.ord.lt
 have s3:=k3.size
 have s4:=k4.size
 have s5:=hU.size
 have hbw:bb<W.heap.size:=lt_of_cell hc.c0
 have nF:∀ k,w.heap.size≤k→¬F k:=fun k hk hh=>by have:=hlt k hh;omega
 have nFo:∀ k,w.heap.size≤k→¬Fo k:=fun k hk hh=>by have:=hlo k hh;omega
 have nG:∀ k,w.heap.size≤k→k<W.heap.size→¬Grow F W w' k:=fun k h1 h2 hh=>by
  rcases hh with q|q
  ·exact nF k h1 q
  ·omega
 have hS1:=hrep.keeps (k3.trans k4)
 have hsz:=hst.size hS1 hp hS.n h6 (by have:=hrep.wf.full;omega)
 refine⟨Grow F W w',sweepSt M ((rs.map Prod.snd).map Edge.to),rs,⟨⟨hS2,((hS.ord.keeps k3).keeps k4).keep hU (fun k g1 g2=>hS.dis k g2 g1),fun k g1 g2=>?_,hS.n,hS.room⟩,hp,h6,h4,?_,hroom,hvast,hst.sweep hS2.wf,(hrow.keeps k4).keep hU (nF lb hlb),hc.keep hU (nF bb (by omega)),⟨nG bb (by omega) hbw,nFo bb (by omega),by omega⟩,⟨nG lb hlb (by omega),nFo lb hlb⟩,by omega⟩,fun j hj=>?_,?_⟩
 ·rcases g1 with q|q
  ·exact hS.dis k q g2
  ·have:=hlo k g2;omega
 ·rw [sweep_few hS1]
  exact_mod_cast hsz.1
 ·rcases hj with q|q
  ·exact .inl q
  ·exact .inr (by omega)
 ·exact((k3.trans k4).upd _).trans' (hU.mono (fun k _ hk=>.inl hk))

theorem siftMade_calls {F Fo:Nat→Prop}{w:World}{sb ob cap3:Nat}{a3:Option Addr}{M:St}{ps:List Int}{fs:List (Int×List Bool)}{rs:List (Int×Edge)}(hS:Sit F Fo w sb ob M ps)(hp:permB ps=true)(h6:ps.length≤6)(h4:fs.length≤4)(hroom:(fs.length:Int)*300<M.room)(hvast:M.room≤1000000)(hst:StandAll M ps fs rs)(hR:IsRoots w a3 rs)(hno:a3=none→cap3=0) :
  Calls Tryz.prog 94 #[.pointer (some ⟨sb,0,none⟩),.pointer (some ⟨ob,0,none⟩),.slice a3 fs.length cap3] w fun e w'=>∃ (bb lb cap:Nat) (la:Option Addr),e=.returned (.pointer (some ⟨bb,0,none⟩))∧BedAt F Fo (fun _=>False) w w' bb lb la cap sb ob ps fs∧w.heap.size≤bb∧w.heap.size≤lb:=by
 obtain⟨i0,hi,hz0,hz1,hz2⟩:=info_parts info_root
 have hbed:=fun(w3 W w':World) (bb lb cap:Nat) (la:Option Addr) (k3:Keeps w w3) (hrow:RowR w3 la lb rs) (hc:BedCells W bb la fs.length cap sb ob) (k4:Keeps w3 W) (hbb:w3.heap.size≤bb) (hlb:w.heap.size≤lb) (hlw:lb<w3.heap.size) (hU:Upd F W w') (hS2:StoreRep (Grow F W w') w' sb (sweepSt M ((rs.map Prod.snd).map Edge.to)))=>made_bed hS hp h6 h4 hroom hvast hst k3 hrow hc k4 hbb hlb hlw hU hS2
 have hok:∀ r∈rs,(0≤r.1∧r.1≤255)∧r.2.ok:=fun r hr=>⟨by have:=(hst.leads r hr).1;omega,hst.oks r hr⟩
 have hrl:=hst.1
 have hsw:=fun(W:World) (g:Nat) (hW:Keeps w W) (hg:RowE W g (rs.map Prod.snd))=>store_sweep (hS.rep.keeps hW) (some ⟨g,0,none⟩) fs.length fs.length (rs.map Prod.snd) ⟨by rw [List.length_map,hrl],fun i e he=>(hg.at (fun e he=>by obtain⟨r,hr,rfl⟩:=List.mem_map.1 he;exact(hok r hr).2)) i e he⟩ (by omega)
 have hed:=fun(W:World) (bb lb cap:Nat) (la:Option Addr) (hrow:RowR W la lb rs) (c2:W.cell? ⟨bb,2,none⟩=some (.slice la fs.length cap))=>bedEdges_calls c2 (hrow.roots hok) hrl (by omega)
 obtain⟨N,hN⟩:∃ N,N=fs.length:=⟨_,rfl⟩
 rw [← hN] at h4 hbed hsw hed hrl ⊢
 have HBED:=Lib.hid hbed
 have HSW:=Lib.hid hsw
 have HED:=Lib.hid hed
 have HR:=Lib.hid hR
 have HRL:=Lib.hid hrl
 have hlit:∀ (W:World),W.heap[w.heap.size]?=some (.cells #[] 80 (0,0))→W.ownsRow w.heap.size 80 3 (.slice (some ⟨w.heap.size,0,none⟩) 0 0) 0 []:=fun W h=>⟨rfl,.inr ⟨w.heap.size,0,#[],rfl,Nat.le_refl _,h,Nat.le_refl _,by decide,rfl,rfl⟩⟩
 have HLIT:=Lib.hid hlit
 have hloc:(w.alloc (.cells #[] 80 (0,0))).heap[w.heap.size]?=some (.cells #[] 80 (0,0)):=by show(w.heap.push _)[w.heap.size]?=_;simp
 have HLOC:=Lib.hid hloc
 clear hbed hsw hed hR hS hp hst hroom hvast hok hN hrl hlit hloc
 by_cases h0:N=0
 ·subst h0
  have hnil:rs=[]:=List.eq_nil_of_length_eq_zero HRL.out
  have hnone:a3=none→(0:Nat)=0∧cap3=0:=fun h=>⟨rfl,hno h⟩
  subst hnil
  clear hno HR
  go_enter Tryz.func94,Tryz.ntmps94
  go_wp2_with (first
   | (at_builtin;go_loud (refine wpList_append_fits_any _ rfl _ _ 63 rfl w.heap.size 80 i0 3 Tryz.underlying63 hi hz1 w.heap.size 0 0 [] rfl (HLIT.out _ HLOC.out) a3 0 cap3 [] rfl rfl hnone (fun _ _ j u h=>by simp at h) (fun u h=>by simp at h) (Nat.le_refl _) ?_);intro w3 hown3 hg3)
   | fail)
  have hgl:w.heap.size<w3.heap.size:=by have:=hg3.size;simp at this;omega
  have k3:Keeps w w3:=Keeps.new (F:=fun k=>some w.heap.size=some k) ((Keeps.refl w).alloc _) ⟨hg3.os,hg3.tape,hg3.output,hg3.size,fun k hk hn=>hg3.block k hk (fun e=>hn e.symm)⟩ (fun k hk=>by cases hk;exact Nat.le_refl _)
  have HROW:Hid (RowR w3 (some ⟨w.heap.size,0,none⟩) w.heap.size []):=Lib.hid (fun h=>absurd rfl h)
  have HK3:=Lib.hid k3
  have s3:=k3.size
  clear hown3 hg3 k3 HLIT HLOC hnone
  have hbc:BedCells (w3.alloc (.cells #[.pointer (some ⟨sb,0,none⟩),.pointer (some ⟨ob,0,none⟩),.slice (some ⟨w.heap.size,0,none⟩) 0 0,.int .u8 0] 173 (0,0))) w3.heap.size (some ⟨w.heap.size,0,none⟩) 0 0 sb ob:=⟨by simp [go_sem],by simp [go_sem],by simp [go_sem],by simp [go_sem]⟩
  have HBC:=Lib.hid hbc
  refine(HED.out _ _ _ _ _ (HROW.out.keeps ((Keeps.refl _).alloc _)) hbc.c2).mono ?_
  clear hbc
  rintro e w5 ⟨g2,rfl,hg2,hRE,hk5⟩
  have HK5:=Lib.hid hk5
  have hk35:Keeps w3 w5:=((Keeps.refl _).alloc _).trans hk5
  have hsw:=HSW.out w5 g2 (HK3.out.trans hk35) hRE
  have HSW5:=Lib.hid hsw
  have HK35:=Lib.hid hk35
  clear hsw hk5 hk35 hRE
  go_wp2_with fail
  refine HSW5.out.mono ?_
  rintro e w6 ⟨rfl,hU6,hS6⟩
  have hB:=HBED.out w3 w5 w6 w3.heap.size w.heap.size 0 (some ⟨w.heap.size,0,none⟩) HK3.out HROW.out (HBC.out.keeps HK5.out) HK35.out (Nat.le_refl _) (Nat.le_refl _) hgl hU6 hS6
  have HB:=Lib.hid hB
  clear hU6 hS6 hB
  go_wp2_with fail
  go_ret
  exact⟨_,_,_,_,rfl,HB.out,s3,Nat.le_refl _⟩

 ·obtain⟨r0,hr0⟩:∃ r,rs[0]?=some r:=⟨_,List.getElem?_eq_getElem (by rw [HRL.out];omega)⟩
  obtain⟨_,_,b,off,rfl,_⟩:=HR.out 0 r0 hr0
  have hlen:(rs.flatMap rootCs).length=N*3:=by
   rw [← HRL.out]
   clear HBED HSW HED HR HRL hr0 hno
   induction rs with
   | nil=>rfl
   | cons r rs ih=>rw [List.flatMap_cons,List.length_append,ih,List.length_cons];show 3+_=_;omega
  have hone:∀ u∈rs.flatMap rootCs,u.oneCell'=true:=fun u hu=>by
   obtain⟨r,_,hr⟩:=List.mem_flatMap.1 hu
   simp only [rootCs,List.mem_cons,List.not_mem_nil,or_false] at hr
   rcases hr with rfl|rfl|rfl<;>rfl
  have HLEN:=Lib.hid hlen
  have HONE:=Lib.hid hone
  have hpos:0<N:=by omega
  clear hr0 hlen hone h0 hno
  go_enter Tryz.func94,Tryz.ntmps94
  go_wp2_with (first
   | (at_builtin;go_loud (refine wpList_append_lies _ rfl _ _ 63 rfl w.heap.size 80 i0 (.agg #[.int .u8 0,.int .u8 0,.int .u32 0]) 3 12 Tryz.underlying63 hi hz0 hz1 hz2 rfl (by decide) (.slice (some ⟨w.heap.size,0,none⟩) 0 0) 0 [] rfl (HLIT.out _ HLOC.out) ⟨b,off,none⟩ N cap3 (rs.flatMap rootCs) rfl HLEN.out (fun j u h=>by rw [Addr.add_lit];exact roots_news (HR.out.keeps ((Keeps.refl w).alloc _)) j u h) HONE.out hpos (by unfold maxLen;omega) (by omega) (by simp) (w.heap.size+1) (by simp) ?_);intro g cap w3 hown3 hg3 hgg hgl)
   | fail)
  rw [Nat.zero_add,List.nil_append] at hown3
  have hgb:w.heap.size≤g:=by
   rcases hgg with q|q
   ·simp [Value.ownBlock] at q;omega
   ·omega
  have hrow:=rowR_owns hown3 HRL.out.symm
  have k3:Keeps w w3:=Keeps.new (F:=fun k=>Value.ownBlock (.slice (some ⟨w.heap.size,0,none⟩) 0 0)=some k) ((Keeps.refl w).alloc _) ⟨hg3.os,hg3.tape,hg3.output,hg3.size,fun k hk hn=>hg3.block k hk (fun e=>hn e.symm)⟩ (fun k hk=>by simp [Value.ownBlock] at hk;omega)
  have HROW:=Lib.hid hrow
  have HK3:=Lib.hid k3
  have s3:=k3.size
  clear hown3 hg3 hgg hrow k3 HLEN HONE HLIT HLOC HR
  have hbc:BedCells (w3.alloc (.cells #[.pointer (some ⟨sb,0,none⟩),.pointer (some ⟨ob,0,none⟩),.slice (some ⟨g,0,none⟩) N cap,.int .u8 0] 173 (0,0))) w3.heap.size (some ⟨g,0,none⟩) N cap sb ob:=⟨by simp [go_sem],by simp [go_sem],by simp [go_sem],by simp [go_sem]⟩
  have HBC:=Lib.hid hbc
  refine(HED.out _ _ _ _ _ (HROW.out.keeps ((Keeps.refl _).alloc _)) hbc.c2).mono ?_
  clear hbc
  rintro e w5 ⟨g2,rfl,hg2,hRE,hk5⟩
  have HK5:=Lib.hid hk5
  have hk35:Keeps w3 w5:=((Keeps.refl _).alloc _).trans hk5
  have hsw:=HSW.out w5 g2 (HK3.out.trans hk35) hRE
  have HSW5:=Lib.hid hsw
  have HK35:=Lib.hid hk35
  clear hsw hk5 hk35 hRE
  go_wp2_with fail
  refine HSW5.out.mono ?_
  rintro e w6 ⟨rfl,hU6,hS6⟩
  have hB:=HBED.out w3 w5 w6 w3.heap.size g cap (some ⟨g,0,none⟩) HK3.out HROW.out (HBC.out.keeps HK5.out) HK35.out (Nat.le_refl _) hgb hgl hU6 hS6
  have HB:=Lib.hid hB
  clear hU6 hS6 hB
  go_wp2_with fail
  go_ret
  exact⟨_,_,_,_,rfl,HB.out,s3,hgb⟩

end Go.Proofs.YtpgcbmbnognieaaGreat
