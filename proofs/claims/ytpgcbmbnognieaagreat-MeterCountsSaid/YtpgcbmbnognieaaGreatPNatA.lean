/-
  Built: a store and the document's, behind records that are found.
-/
import Derived.Test.YtpgcbmbnognieaaGreatPNatL
import Derived.Test.YtpgcbmbnognieaaGreatPRefB
import Derived.Laws.Externs
namespace Go.Proofs.YtpgcbmbnognieaaGreat
set_option linter.unusedSimpArgs false
set_option linter.unusedVariables false
set_option maxHeartbeats 600000
open Go.RowKit

def IsRecs (w:World) (a:Option Addr) (len:Nat) (rs:List Rec):Prop:=
 rs.length=len ∧ ∀ i r,rs[i]?=some r → r.ok ∧ ∃ b off,a=some ⟨b,off,none⟩ ∧ ∀ j,j < 7 → w.cell? ⟨b,off + i * 7 + j,none⟩=(recVals r)[j]?

theorem Keeps.new {F:Nat → Prop} {w W W1:World} (h:Keeps w W) (hu:Upd F W W1) (hf:∀ k,F k → w.heap.size ≤ k):Keeps w W1:=by
 have hs:=h.size
 refine ⟨hu.os.trans h.os,hu.tape.trans h.tape,hu.output.trans h.output,Nat.le_trans hs hu.size,fun k hk=>?_⟩
 rw [hu.block k (by omega) (fun hh=>by have:=hf k hh;omega),h.block k hk]

structure Both (w0 w:World) (sb mb:Nat) (M:St) (L:List (Int × Rec)):Prop where
 ex:∃ F G,StoreRep F w sb M ∧ RefRep G w mb M L ∧ (∀ k,F k → ¬ G k) ∧ (∀ k,F k → w0.heap.size ≤ k) ∧ (∀ k,G k → w0.heap.size ≤ k)
 keep:Keeps w0 w

theorem Both.keeps {w0 w W:World} {sb mb:Nat} {M:St} {L:List (Int × Rec)} (h:Both w0 w sb mb M L) (hk:Keeps w W):Both w0 W sb mb M L:=by
 obtain ⟨⟨F,G,h1,h2,h3⟩,h4⟩:=h
 exact ⟨⟨F,G,h1.keeps hk,h2.keeps hk,h3⟩,h4.trans hk⟩

theorem Both.step {w0 w w1 w1' w2:World} {sb mb:Nat} {M M':St} {L L':List (Int × Rec)} {F G:Nat → Prop} (h1:StoreRep F w sb M) (h2:RefRep G w mb M L) (h3:∀ k,F k → ¬ G k) (h4:∀ k,F k → w0.heap.size ≤ k) (h5:∀ k,G k → w0.heap.size ≤ k) (h6:Keeps w0 w)
  (u1:Upd F w w1) (s1:StoreRep (Grow F w w1) w1 sb M') (k1:Keeps w1 w1') (u2:Upd G w1' w2) (s2:RefRep (Grow G w1' w2) w2 mb M' L'):Both w0 w2 sb mb M' L':=by
 have z0:=h6.size
 have z1:=u1.size
 have z2:=k1.size
 refine ⟨⟨Grow F w w1,Grow G w1' w2,(s1.keeps k1).keep u2 ?_,s2,?_,?_,?_⟩,((h6.new u1 h4).trans k1).new u2 h5⟩
 ·intro k hk hg
  rcases hk with hk | hk
  ·exact h3 k hk hg
  ·have:=h2.lt k hg
   omega
 ·intro k hk hg
  have hl:=s1.lt k hk
  rcases hg with hg | hg
  ·rcases hk with hk | hk
   ·exact h3 k hk hg
   ·have:=h2.lt k hg
    omega
  ·omega
 ·intro k hk
  rcases hk with hk | hk
  ·exact h4 k hk
  ·omega
 ·intro k hk
  rcases hk with hk | hk
  ·exact h5 k hk
  ·omega

theorem findSt_n (M:St) (r:Rec):(M.findSt r).n=M.n:=by
 unfold St.findSt
 split
 ·rfl
 ·split
  ·rfl
  ·split
   ·rfl
   ·rfl

theorem findSt_room (M:St) (r:Rec):(M.findSt r).room=M.room:=by
 unfold St.findSt
 split
 ·rfl
 ·split
  ·rfl
  ·split
   ·rfl
   ·rfl

theorem findSt_len (M:St) (r:Rec):M.len ≤ (M.findSt r).len ∧ (M.findSt r).len ≤ M.len + 1:=by
 unfold St.findSt
 split
 ·omega
 ·split
  ·omega
  ·split
   ·omega
   ·have:=putLen (cs:=M.cs) (gone:=M.gone) (r:=r)
    unfold St.len
    simp only []
    omega

set_option maxRecDepth 100000 in
theorem built' (n room:Int) (a:Option Addr) (len cap:Nat) (rs:List Rec) (w:World) (h0:0 ≤ n) (h1:n ≤ 16) (h2:0 ≤ room) (h3:room ≤ 1048576) (hl:len ≤ 1048576) (hrs:IsRecs w a len rs) :
  Calls Tryz.prog 12 #[.int .i64 n,.int .i64 room,.slice a len cap] w fun e w'=>∃ sb mb M L,e=.returned (.tuple #[.pointer (some ⟨sb,0,none⟩),.pointer (some ⟨mb,0,none⟩),.bool true]) ∧ Both w w' sb mb M L ∧ M.n=n ∧ M.room=room ∧ M.len ≤ len:=by
 have HR:=Lib.hid hrs
 clear hrs
 go_enter Tryz.func12,Tryz.ntmps12
 go_wp2_with (go_at_call 63;refine (store_new n room _ h0 h1 h2 h3).mono ?_;rintro e w1 ⟨sb,F,rfl,hk,hF,hS⟩)
 have hB0:Both w (w1.alloc (.cells #[.slice none 0 0,.slice none 0 0,.int .u32 0,.int .i64 n,.int .i64 room] 121)) sb w1.heap.size (St.new n room) []:=by
  refine ⟨⟨F,fun k=>k=w1.heap.size,hS.keeps ((Keeps.refl _).alloc _),?_,?_,hF,?_⟩,hk.alloc _⟩
  ·refine ⟨⟨.slice none 0 0,.slice none 0 0,heap_alloc_new w1 _,World.ownsRow_nil _ _ _ _,World.ownsRow_nil _ _ _ _,fun k hk=>by simp [Value.ownBlock] at hk,fun k hk=>by simp [Value.ownBlock] at hk⟩,rfl,?_,St.new_wf h0 h1 h2 h3,?_,?_,?_,?_,?_⟩
   ·intro k hk;subst hk;simp
   ·intro id r;simp [St.new,look_nil]
   ·simp
   ·simp [St.len,St.new]
   ·simp [St.new]
   ·intro p hp;simp at hp
  ·intro k hk e
   subst e
   exact Nat.lt_irrefl _ (hS.lt _ hk)
  ·intro k e
   subst e
   exact hk.size
 clear hS hF
 have hmb:∃ mb,mb=w1.heap.size:=⟨_,rfl⟩
 go_loopg [12] len (fun gk i wr=>∃ (d:Nat) (M:St) (L:List (Int × Rec)),d + gk=len ∧ i=.int .i64 (d:Int) ∧ Both w wr sb w1.heap.size M L ∧ M.n=n ∧ M.room=room ∧ M.len ≤ d)
 case atStart=>exact ⟨0,_,_,by omega,rfl,hB0,rfl,rfl,by simp [St.new,St.len]⟩
 case round=>
  obtain ⟨d,M,L,hd,rfl,hB,hMn,hMr,hMl⟩:=hrel
  by_cases hlt:d < len
  ·obtain ⟨r,hr⟩:∃ r,rs[d]?=some r:=⟨_,List.getElem?_eq_getElem (by rw [HR.out.1];exact hlt)⟩
   obtain ⟨hok,b,off,rfl,hc⟩:=HR.out.2 d r hr
   have hsv:=fun j hj=>(hc j hj).trans (List.getElem?_eq_getElem (show j < (recVals r).length from hj))
   have s0:=hsv 0 (by omega)
   have s1:=hsv 1 (by omega)
   have s2:=hsv 2 (by omega)
   have s3:=hsv 3 (by omega)
   have s4:=hsv 4 (by omega)
   have s5:=hsv 5 (by omega)
   have s6:=hsv 6 (by omega)
   simp [recVals] at s0 s1 s2 s3 s4 s5 s6
   clear hsv hc
   obtain ⟨⟨F',G',q1,q2,q3,q4,q5⟩,q6⟩:=hB
   have t0:=q6.cell s0
   have t1:=q6.cell s1
   have t2:=q6.cell s2
   have t3:=q6.cell s3
   have t4:=q6.cell s4
   have t5:=q6.cell s5
   have t6:=q6.cell s6
   have HS:=Lib.hid q1
   have HM:=Lib.hid q2
   have HD:=Lib.hid q3
   have H4:=Lib.hid q4
   have H5:=Lib.hid q5
   have H6:=Lib.hid q6
   have HC:=Lib.hid (And.intro s0 (And.intro s1 (And.intro s2 (And.intro s3 (And.intro s4 (And.intro s5 s6))))))
   clear q1 q2 q3 q4 q5 q6 s0 s1 s2 s3 s4 s5 s6
   have hb0:b < wr.heap.size:=lt_of_cell t0
   go_wp2_with (first | (go_at_call 64;refine (store_find HS.out r hok).mono ?_;rintro e w2 ⟨rfl,hu,hS2⟩;have hkk:=Lib.hid (H6.out.new hu H4.out);have v0:=hkk.out.cell HC.out.1;have v1:=hkk.out.cell HC.out.2.1;have v2:=hkk.out.cell HC.out.2.2.1;have v3:=hkk.out.cell HC.out.2.2.2.1;have v4:=hkk.out.cell HC.out.2.2.2.2.1;have v5:=hkk.out.cell HC.out.2.2.2.2.2.1;have v6:=hkk.out.cell HC.out.2.2.2.2.2.2;have HU:=Lib.hid hu;have HS2:=Lib.hid hS2;clear hu hS2 t0 t1 t2 t3 t4 t5 t6) | (go_at_call 65;refine (ref_find (HM.out.keep HU.out (fun k hk hf=>HD.out k hf hk)) r hok).mono ?_;rintro e w3 ⟨rfl,hu3,hS3⟩;have hB3:=Both.step HS.out HM.out HD.out H4.out H5.out H6.out HU.out HS2.out (Keeps.refl _) hu3 hS3) | fail)
   go_roundg (gk - 1)
   case rel=>exact ⟨d + 1,_,_,by omega,by simp,hB3,by rw [findSt_n];exact hMn,by rw [findSt_room];exact hMr,by have:=(findSt_len M r).2;push_cast;omega⟩
   case measure=>omega
  ·go_wp2
   exact bodyPost_ret (v:=.tuple #[.pointer (some ⟨sb,0,none⟩),.pointer (some ⟨w1.heap.size,0,none⟩),.bool true]) (by simp [results,Tryz.results12,go_sem]) rfl ⟨sb,w1.heap.size,M,L,rfl,hB,hMn,hMr,by omega⟩

set_option maxRecDepth 100000 in
theorem same_low (sb mb:Nat) (n room:Int) (a:Option Addr) (len cap:Nat) (ids:Nat → Int) (rs:Nat → Rec) (w:World) (hl:len ≤ 1048576)
  (c0:w.cell? ⟨mb,0,none⟩=some (.slice a len cap)) (c3:w.cell? ⟨mb,3,none⟩=some (.int .i64 n)) (c4:w.cell? ⟨mb,4,none⟩=some (.int .i64 room))
  (hln:∀ W,Keeps w W → Calls Tryz.prog 44 #[.pointer (some ⟨sb,0,none⟩)] W fun e w'=>e=.returned (.int .i64 (len:Int)) ∧ W=w')
  (hvs:∀ W,Keeps w W → Calls Tryz.prog 67 #[.pointer (some ⟨sb,0,none⟩)] W fun e w'=>e=.returned (.int .i64 n) ∧ W=w')
  (hrm:∀ W,Keeps w W → Calls Tryz.prog 79 #[.pointer (some ⟨sb,0,none⟩)] W fun e w'=>e=.returned (.int .i64 room) ∧ W=w')
  (hv:∀ i,i < len → ∃ lb,a=some ⟨lb,0,none⟩ ∧ ∀ j,j < 8 → w.cell? ⟨lb,i * 8 + j,none⟩=(nodeVals (ids i,rs i))[j]?)
  (hget:∀ i,i < len → ∀ W,Keeps w W → Calls Tryz.prog 80 #[.pointer (some ⟨sb,0,none⟩),.int .u32 (ids i)] W fun e w'=>e=.returned (.tuple #[.agg #[.int .u8 (rs i).form,.int .u8 (rs i).top,.int .u8 (rs i).bot,.int .u8 (rs i).lo.tag,.int .u32 (rs i).lo.to,.int .u8 (rs i).hi.tag,.int .u32 (rs i).hi.to],.bool true]) ∧ Keeps W w')
  (hhas:∀ i,i < len → ∀ W,Keeps w W → Calls Tryz.prog 81 #[.pointer (some ⟨sb,0,none⟩),.agg #[.int .u8 (rs i).form,.int .u8 (rs i).top,.int .u8 (rs i).bot,.int .u8 (rs i).lo.tag,.int .u32 (rs i).lo.to,.int .u8 (rs i).hi.tag,.int .u32 (rs i).hi.to]] W fun e w'=>e=.returned (.tuple #[.int .u32 (ids i),.bool true]) ∧ Keeps W w') :
  Calls Tryz.prog 18 #[.pointer (some ⟨sb,0,none⟩),.pointer (some ⟨mb,0,none⟩)] w fun e w'=>e=.returned (.bool true) ∧ Keeps w w':=by
 have HLn:=Lib.hid hln
 have HVs:=Lib.hid hvs
 have HRm:=Lib.hid hrm
 have HV:=Lib.hid hv
 have HG:=Lib.hid hget
 have HH:=Lib.hid hhas
 clear hln hvs hrm hv hget hhas
 go_enter Tryz.func18,Tryz.ntmps18
 go_wp2_with fail
 have d0k:=KWorld.cell c0
 have d3k:=KWorld.cell c3
 have d4k:=KWorld.cell c4
 refine wp_region_keeps (w) (by kernel_rfl) (by kernel_rfl) (by (exact kp)) ?_;(repeat (go_big_quiet_step ((first | (go_at_call 44;with_reducible refine Calls.sameK (HLn.out _ (KWorld.keep _))) | (go_at_call 67;with_reducible refine Calls.sameK (HVs.out _ (KWorld.keep _))) | (go_at_call 79;with_reducible refine Calls.sameK (HRm.out _ (KWorld.keep _)))))));refine wpQuiet_nil ?_;rintro wq ⟨⟨_,hkq⟩,rfl⟩;try dsimp only
 go_wp2_with fail
 go_loopg [5] len (fun gk i wr=>∃ d:Nat,d + gk=len ∧ i=.int .i64 (d:Int) ∧ Keeps w wr)
 case atStart=>exact ⟨0,by omega,rfl,hkq⟩
 case round=>
  obtain ⟨d,hd,rfl,hk⟩:=hrel
  have i0:=hk.cell c0
  have hmb:mb < wr.heap.size:=lt_of_cell i0
  by_cases hlt:d < len
  ·obtain ⟨lb,rfl,hc⟩:=HV.out d hlt
   have hsv:=fun j hj=>hk.cell ((hc j hj).trans (List.getElem?_eq_getElem (by rw [nodeVals_length];exact hj)))
   have s0:=hsv 0 (by omega)
   have s1:=hsv 1 (by omega)
   have s2:=hsv 2 (by omega)
   have s3:=hsv 3 (by omega)
   have s4:=hsv 4 (by omega)
   have s5:=hsv 5 (by omega)
   have s6:=hsv 6 (by omega)
   have s7:=hsv 7 (by omega)
   simp [nodeVals,recVals] at s0 s1 s2 s3 s4 s5 s6 s7
   have hlb:lb < wr.heap.size:=lt_of_cell s0
   clear hsv hc
   have HGd:=Lib.hid (HG.out d hlt)
   have HHd:=Lib.hid (HH.out d hlt)
   have hq:∀ W,(binOp .neq 125 (.agg #[.int .u8 (rs d).form,.int .u8 (rs d).top,.int .u8 (rs d).bot,.int .u8 (rs d).lo.tag,.int .u32 (rs d).lo.to,.int .u8 (rs d).hi.tag,.int .u32 (rs d).hi.to]) (.agg #[.int .u8 (rs d).form,.int .u8 (rs d).top,.int .u8 (rs d).bot,.int .u8 (rs d).lo.tag,.int .u32 (rs d).lo.to,.int .u8 (rs d).hi.tag,.int .u32 (rs d).hi.to])).run Tryz.prog W=.ok (.bool false) W:=fun W=>by rw [run_neq_rec];simp
   go_wp2_with (go_at_call 80;refine (HGd.out _ hk).mono ?_;rintro e w2 ⟨rfl,hb⟩;have hk2:=hk.trans hb;have j0:=hb.cell i0;have v0:=hb.cell s0;have v1:=hb.cell s1;have v2:=hb.cell s2;have v3:=hb.cell s3;have v4:=hb.cell s4;have v5:=hb.cell s5;have v6:=hb.cell s6;have v7:=hb.cell s7;have hsz:=hb.size;have hmb2:mb < w2.heap.size:=(by omega);have hlb2:lb < w2.heap.size:=(by omega))
   refine (HHd.out _ (by (exact kp))).mono ?_
   rintro e w3 ⟨rfl,hb3⟩
   have hb4:Keeps (w2.alloc (.cells #[.int .u8 (rs d).form,.int .u8 (rs d).top,.int .u8 (rs d).bot,.int .u8 (rs d).lo.tag,.int .u32 (rs d).lo.to,.int .u8 (rs d).hi.tag,.int .u32 (rs d).hi.to] 125)) w3:=hb3
   obtain ⟨b0,b1,b2,b3,b4,b5,b6⟩:=box7 hb4
   have hb5:Keeps w2 w3:=((Keeps.refl _).alloc _).trans hb4
   have hk3:Keeps w w3:=hk2.trans hb5
   have p0:=hb5.cell j0
   have r0:=hb5.cell v0
   have r1:=hb5.cell v1
   have r2:=hb5.cell v2
   have r3:=hb5.cell v3
   have r4:=hb5.cell v4
   have r5:=hb5.cell v5
   have r6:=hb5.cell v6
   have r7:=hb5.cell v7
   clear i0 s0 s1 s2 s3 s4 s5 s6 s7 j0 v0 v1 v2 v3 v4 v5 v6 v7 hb3 hb4
   go_wp2_with fail
   go_quiet (fail)
   go_wp2
   go_roundg (gk - 1)
   case rel=>exact ⟨d + 1,by omega,by simp,by (exact kp)⟩
   case measure=>omega
  ·have hdl:¬ (d:Int) < (len:Int):=by omega
   go_wp2
   go_ret
   exact ⟨rfl,by (exact kp)⟩

theorem RefRep.room {F:Nat → Prop} {w:World} {mb:Nat} {M:St} {L:List (Int × Rec)} (h:RefRep F w mb M L):w.cell? ⟨mb,4,none⟩=some (.int .i64 M.room):=by
 obtain ⟨⟨lv,gv,h1,-⟩,-⟩:=h
 rw [cell_of_row w mb 4 _ _ _ h1]
 rfl

theorem same_both {w0 w:World} {sb mb:Nat} {M:St} {L:List (Int × Rec)} (h:Both w0 w sb mb M L) :
  Calls Tryz.prog 18 #[.pointer (some ⟨sb,0,none⟩),.pointer (some ⟨mb,0,none⟩)] w fun e w'=>e=.returned (.bool true) ∧ Keeps w w':=by
 obtain ⟨⟨F,G,hS,hR,-⟩,-⟩:=h
 obtain ⟨a,cap,c0,hc⟩:=hR.cell
 have c3:w.cell? ⟨mb,3,none⟩=some (.int .i64 M.n):=by
  obtain ⟨⟨lv,gv,h1,-⟩,-⟩:=hR
  rw [cell_of_row w mb 3 _ _ _ h1]
  rfl
 have hat:∀ i,i < L.length → look M.cs (L[i]?.getD (0,Rec.zero)).1=some (L[i]?.getD (0,Rec.zero)).2:=fun i hi=>by
  rw [List.getElem?_eq_getElem hi]
  exact (hR.mem _ _).1 (List.getElem_mem hi)
 refine same_low sb mb M.n M.room a L.length cap (fun i=>(L[i]?.getD (0,Rec.zero)).1) (fun i=>(L[i]?.getD (0,Rec.zero)).2) w hR.le c0 c3 hR.room ?_ (fun W hW=>store_vars (hS.keeps hW)) (fun W hW=>store_room (hS.keeps hW)) ?_ ?_ ?_
 ·intro W hW
  rw [hR.len]
  exact store_len (hS.keeps hW)
 ·intro i hi
  obtain ⟨lb,rfl,_,hv⟩:=hc (by omega)
  refine ⟨lb,rfl,fun j hj=>?_⟩
  rw [hv i _ (List.getElem?_eq_getElem hi) j hj,List.getElem?_eq_getElem hi]
  rfl
 ·intro i hi W hW
  have hl:=hat i hi
  have hid:=(look_some hl).2.1
  have hfew:=hR.few
  have:=store_get (hS.keeps hW) (L[i]?.getD (0,Rec.zero)).1 (by omega)
  rw [hl] at this
  exact this
 ·intro i hi W hW
  have hl:=hat i hi
  have hok:=hR.fit _ (List.getElem_mem hi)
  have e:L[i]?.getD (0,Rec.zero)=L[i]:=by rw [List.getElem?_eq_getElem hi];rfl
  have:=store_has (hS.keeps hW) (L[i]?.getD (0,Rec.zero)).2 (by rw [e];exact hok)
  rw [(idOf_iff hS.once _ _).1 hl] at this
  exact this

theorem rowU_owns {w:World} {lo:Nat} {g:Nat} {n cap:Nat} {ps:List Int} (hown:w.ownsRow lo 50 1 (.slice (some ⟨g,0,none⟩) n cap) n (ps.map (Value.int .u64))):RowU w g ps ∧ lo ≤ g:=by
 obtain ⟨cur0,hcur0⟩:=owns_type hown (k:=g) rfl
 rcases hown.2 with ⟨h0,_⟩ | ⟨g',cap',cur,hv,hb,hg,_,_,hs,ht⟩
 ·cases h0
 ·cases hv
  refine ⟨⟨cur,hg,fun i x hx=>?_⟩,hb⟩
  have h1:(ps.map (Value.int .u64))[i]?=some (.int .u64 x):=by rw [List.getElem?_map,hx];rfl
  rw [← ht,List.getElem?_take] at h1
  split at h1
  ·rw [Array.getElem?_toList] at h1
   exact h1
  ·cases h1

def RowUV (lo:Nat) (w:World) (a:Option Addr) (ps:List Int):Prop:=ps ≠ [] → ∃ g,a=some ⟨g,0,none⟩ ∧ lo ≤ g ∧ RowU w g ps

theorem RowUV.words {lo:Nat} {w:World} {a:Option Addr} {ps:List Int} (h:RowUV lo w a ps) (hr:∀ x ∈ ps,0 ≤ x ∧ x < 2 ^ 64):WordsAt w a ps:=fun i x hx=>by
 obtain ⟨g,ha,_,hrow⟩:=h (fun e=>by rw [e] at hx;simp at hx)
 rw [ha]
 exact hrow.words hr i x hx

theorem RowUV.keeps {lo:Nat} {w w':World} {a:Option Addr} {ps:List Int} (h:RowUV lo w a ps) (hk:Keeps w w'):RowUV lo w' a ps:=fun hn=>by
 obtain ⟨g,ha,hl,hr⟩:=h hn
 exact ⟨g,ha,hl,hr.keeps hk⟩

def B64:Nat:=2 ^ 64

theorem b64_two:2 ≤ B64:=by decide

theorem words_ok {w:World} {a:Option Addr} {ws:List Int} (h:WordsAt w a ws):WordsOk B64 ws:=fun x hx=>by
 obtain ⟨i,hi⟩:=List.mem_iff_getElem?.1 hx
 exact (h i x hi).1

theorem WordsAt.take {w:World} {a:Option Addr} {ws:List Int} (h:WordsAt w a ws) (n:Nat):WordsAt w a (ws.take n):=fun i x hx=>by
 rw [List.getElem?_take] at hx
 split at hx
 ·exact h i x hx
 ·cases hx

def NatV (lo:Nat) (w:World) (v:Nat) (x:Value):Prop:=∃ a cap,x=.slice a (natW B64 v).length cap ∧ (natW B64 v).length ≤ cap ∧ RowUV lo w a (natW B64 v)

theorem NatV.keeps {lo:Nat} {w w':World} {v:Nat} {x:Value} (h:NatV lo w v x) (hk:Keeps w w'):NatV lo w' v x:=by
 obtain ⟨a,cap,h1,h2,h3⟩:=h
 exact ⟨a,cap,h1,h2,h3.keeps hk⟩

theorem NatV.le {lo lo':Nat} {w:World} {v:Nat} {x:Value} (h:NatV lo w v x) (hl:lo' ≤ lo):NatV lo' w v x:=by
 obtain ⟨a,cap,h1,h2,h3⟩:=h
 refine ⟨a,cap,h1,h2,fun hn=>?_⟩
 obtain ⟨g,q1,q2,q3⟩:=h3 hn
 exact ⟨g,q1,by omega,q3⟩

theorem natV_nil (lo:Nat) (w:World):NatV lo w 0 (.slice none 0 0):=by
 refine ⟨none,0,by rw [natW_zero];rfl,by rw [natW_zero];exact Nat.le_refl _,fun hn=>?_⟩
 rw [natW_zero] at hn
 exact absurd rfl hn

theorem natW_words (v:Nat):∀ x ∈ natW B64 v,0 ≤ x ∧ x < 2 ^ 64:=fun x hx=>natW_ok b64_two v x hx

theorem owns_cap {w:World} {base:Nat} {e:TypeId} {size:Nat} {a:Option Addr} {n cap:Nat} {xs:List Value} (h:w.ownsRow base e size (.slice a n cap) n xs):n ≤ cap:=by
 rcases h.2 with ⟨h0,hn⟩ | ⟨g,cap',cur,hv,hb,hg,hc,_⟩
 ·omega
 ·cases hv
  exact hc

set_option maxRecDepth 100000 in
theorem clone64_calls (a:Option Addr) (cap:Nat) (ps:List Int) (w:World) (h:WordsAt w a ps) (hl:ps.length ≤ 1048576) :
  Calls Tryz.prog 136 #[.slice a ps.length cap] w fun e w'=>∃ a' cap',e=.returned (.slice a' ps.length cap') ∧ ps.length ≤ cap' ∧ RowUV w.heap.size w' a' ps ∧ Keeps w w':=by
 cases a with
 | none=>
  have hp:ps=[]:=by
   cases ps with
   | nil=>rfl
   | cons x l=>obtain ⟨_,b,off,ha,_⟩:=h 0 x rfl;cases ha
  subst hp
  clear h hl
  rw [List.length_nil]
  have hnil:=fun (W:World)=>Lib.run_eql_slice_nil (P:=Tryz.prog) W 26 50 none 0 cap 0 0 Tryz.underlying26
  go_enter Tryz.func136,Tryz.ntmps136
  go_wp2
  go_ret
  exact ⟨none,0,rfl,Nat.le_refl _,fun hn=>absurd rfl hn,Keeps.refl _⟩
 | some ad=>
  obtain ⟨i0,hi,hz0,hz1,hz2⟩:=info_parts info_u64
  have hcells:∀ j u,(ps.map (Value.int .u64))[j]?=some u → w.cell? (ad.add j)=some u:=fun j u hj=>by
   rw [List.getElem?_map,Option.map_eq_some_iff] at hj
   obtain ⟨x,hx,rfl⟩:=hj
   obtain ⟨_,b,off,ha,hc⟩:=h j x hx
   cases ha
   have hadd:(⟨b,off,none⟩:Addr).add j=⟨b,off + j,none⟩:=by
    unfold Addr.add
    split
    ·rename_i h0
     rw [h0]
     rfl
    ·rfl
   rw [hadd]
   exact hc
  obtain ⟨N,hN⟩:∃ N,N=ps.length:=⟨_,rfl⟩
  rw [← hN] at hl ⊢
  have HC:=Lib.hid hcells
  have HN:=Lib.hid hN
  have h63:0 + N ≤ maxLen:=by unfold maxLen;omega
  clear h hcells hN
  have hnil:=fun (W:World)=>Lib.run_eql_slice_nil (P:=Tryz.prog) W 26 50 (some ad) N cap 0 0 Tryz.underlying26
  go_enter Tryz.func136,Tryz.ntmps136
  go_wp2_with (first
   | (at_builtin;refine wpList_append_fresh rfl _ _ 26 rfl w.heap.size 50 i0 (.int .u64 0) 1 8 Tryz.underlying26 hi hz0 hz1 hz2 rfl (by decide) (.slice (some ⟨w.heap.size,0,none⟩) 0 0) 0 [] rfl (owns_none w 50) ad N cap (ps.map (Value.int .u64)) rfl (by rw [List.length_map,← HN.out,Nat.mul_one]) (fun j u hj=>((Keeps.refl w).alloc _).cell (HC.out j u hj)) (fun u hu=>by rw [List.mem_map] at hu;obtain ⟨x,_,rfl⟩:=hu;rfl) h63 (by omega) (by simp) ?_;intro v' w3 hown3 hg3 hnew)
   | fail)
  obtain ⟨a',cap',rfl,ha'⟩:=owns_slice hown3
  have hcap:=owns_cap hown3
  go_wp2_with fail
  go_ret
  refine ⟨a',cap',by simp,by omega,fun hn=>?_,?_⟩
  ·obtain ⟨g,rfl⟩:=ha' (by rw [Nat.zero_add,HN.out];intro e;exact hn (List.length_eq_zero_iff.1 e))
   rw [List.nil_append] at hown3
   obtain ⟨r1,r2⟩:=rowU_owns hown3
   exact ⟨g,rfl,r2,r1⟩
  ·have hu:Upd (fun k=>k=w.heap.size) (w.alloc (.cells #[] 50)) w3:=⟨hg3.os,hg3.tape,hg3.output,hg3.size,fun k hk hn=>hg3.block k hk (fun e=>by simp [Value.ownBlock] at e;exact hn e)⟩
   exact ((((Keeps.refl w).alloc (.cells #[] 50)).upd _).trans' hu).keeps (fun k hk e=>by omega)

set_option maxRecDepth 100000 in
theorem norm_calls (a:Option Addr) (cap:Nat) (ws:List Int) (w:World) (h:WordsAt w a ws) (hl:ws.length ≤ 1048576) (hc:ws.length ≤ cap) :
  Calls Tryz.prog 69 #[.slice a ws.length cap] w fun e w'=>∃ x,e=.returned x ∧ NatV w.heap.size w' (valW B64 ws).toNat x ∧ Keeps w w':=by
 have hok:=words_ok h
 obtain ⟨N,hN⟩:∃ N,N=ws.length:=⟨_,rfl⟩
 obtain ⟨v,hv⟩:∃ v,v=(valW B64 ws).toNat:=⟨_,rfl⟩
 have HN:=Lib.hid hN
 have HW:=Lib.hid h
 have hfin:∀ n,n ≤ N → (∀ i x,n ≤ i → ws[i]?=some x → x=0) → (n=0 ∨ ∃ x,ws[n - 1]?=some x ∧ x ≠ 0) → ws.take n=natW B64 v:=fun n hn h0 h1=>by rw [hv];exact wtake_trim b64_two hok (by omega) h0 h1
 have hC:∀ n,n ≤ N → ∀ cap,ws.take n=natW B64 v → Calls Tryz.prog 136 #[.slice a n cap] w fun e w'=>∃ x,e=.returned x ∧ NatV w.heap.size w' v x ∧ Keeps w w':=fun n hn cap he=>by
  have q:=clone64_calls a cap (ws.take n) w (h.take n) (by rw [List.length_take];omega)
  rw [show (ws.take n).length=n by rw [List.length_take];omega] at q
  refine q.mono ?_
  rintro e w1 ⟨a',cap',rfl,hc',hr,hk⟩
  have hn:n=(natW B64 v).length:=by rw [← he,List.length_take];omega
  rw [he] at hr
  exact ⟨_,rfl,⟨a',cap',by rw [← hn],by omega,hr⟩,hk⟩
 rw [← hN] at hl hc ⊢
 rw [← hv]
 have HC:=Lib.hid hC
 have HF:=Lib.hid hfin
 clear hC hfin h hok hN hv
 go_enter Tryz.func69,Tryz.ntmps69
 go_wp2_with fail
 go_loopg [3] N (fun gk s3 wr=>s3=.int .i64 (gk:Int) ∧ gk ≤ N ∧ (∀ i x,gk ≤ i → ws[i]?=some x → x=0) ∧ w=wr)
 case atStart=>exact ⟨rfl,Nat.le_refl _,fun i x hi hx=>by
  have:=(List.getElem?_eq_some_iff.1 hx).1
  have:=HN.out
  omega,rfl⟩
 case round=>
  obtain ⟨rfl,hg,hz,rfl⟩:=hrel
  have HZ:=Lib.hid hz
  clear hz
  by_cases hg0:gk=0
  ·subst hg0
   have HE:=Lib.hid (HF.out 0 (Nat.zero_le _) HZ.out (.inl rfl))
   have hlt:¬ (0:Int) < ((0:Nat):Int):=by omega
   go_wp2_with (first | (go_at_call 136;refine (HC.out 0 (Nat.zero_le _) _ HE.out).mono ?_;rintro e w1 ⟨x,rfl,hr,hk⟩) | fail)
   go_ret
   exact ⟨x,rfl,hr,hk⟩
  ·obtain ⟨j,rfl⟩:∃ j,gk=j + 1:=⟨gk - 1,by omega⟩
   obtain ⟨x,hx⟩:∃ x,ws[j]?=some x:=⟨_,List.getElem?_eq_getElem (by have:=HN.out;omega)⟩
   obtain ⟨hxr,b,off,rfl,hcell⟩:=HW.out j x hx
   have hbl:=lt_of_cell hcell
   have HX:=Lib.hid hx
   have hp:(0:Int) < ((j + 1:Nat):Int):=by omega
   clear hx hg0
   by_cases hx0:x=0
   ·subst hx0
    go_wp2_with fail
    go_roundg j
    case rel=>exact ⟨rfl,by omega,fun i y hi hy=>by
     by_cases hij:i=j
     ·subst hij;rw [HX.out] at hy;exact (Option.some.inj hy).symm
     ·exact HZ.out i y (by omega) hy,rfl⟩
    case measure=>omega
   ·have hxe:(x == 0)=false:=by simpa using hx0
    have HE:=Lib.hid (HF.out (j + 1) hg HZ.out (.inr ⟨x,HX.out,hx0⟩))
    clear hx0
    go_wp2_with (first | (go_at_call 136;refine (HC.out (j + 1) hg _ HE.out).mono ?_;rintro e w1 ⟨y,rfl,hr,hk⟩) | fail)
    go_ret
    exact ⟨y,rfl,hr,hk⟩

theorem natV_len {lo:Nat} {w:World} {v:Nat} {x:Value} (h:NatV lo w v x):∃ a cap,x=.slice a (natW B64 v).length cap ∧ (natW B64 v).length ≤ cap ∧ WordsAt w a (natW B64 v):=by
 obtain ⟨a,cap,h1,h2,h3⟩:=h
 exact ⟨a,cap,h1,h2,h3.words (natW_words v)⟩

theorem normV_calls {lo v:Nat} {x:Value} {w:World} (h:NatV lo w v x) (hl:(natW B64 v).length ≤ 1048576) :
  Calls Tryz.prog 69 #[x] w fun e w'=>∃ y,e=.returned y ∧ NatV w.heap.size w' v y ∧ Keeps w w':=by
 obtain ⟨a,cap,rfl,hc,hw⟩:=natV_len h
 have q:=norm_calls a cap (natW B64 v) w hw hl hc
 rw [valW_natW b64_two,Int.toNat_natCast] at q
 exact q

theorem fits_calls (a:Option Addr) (n cap:Nat) (w:World) (hn:n ≤ 1048576):Calls Tryz.prog 146 #[.slice a n cap] w fun e w'=>e=.returned (.bool (decide (n ≤ 64))) ∧ w=w':=by
 by_cases h:n ≤ 64
 ·rw [decide_eq_true h]
  have q:(n:Int) ≤ 64:=by omega
  go_enter Tryz.func146,Tryz.ntmps146
  go_wp2_with fail
  go_ret
  exact ⟨rfl,rfl⟩
 ·rw [decide_eq_false h]
  have q:¬ (n:Int) ≤ 64:=by omega
  go_enter Tryz.func146,Tryz.ntmps146
  go_wp2_with fail
  go_ret
  exact ⟨rfl,rfl⟩

theorem natOf_calls (n:Nat) (w:World) (hn:n < 2 ^ 64) :
  Calls Tryz.prog 135 #[.int .u64 (n:Int)] w fun e w'=>∃ x,e=.returned x ∧ NatV w.heap.size w' n x ∧ Keeps w w':=by
 have hw:WordsAt (w.alloc (.cells #[.int .u64 (n:Int)] 50)) (some ⟨w.heap.size,0,none⟩) [(n:Int)]:=fun i x hx=>by
  cases i with
  | zero=>simp at hx;subst hx;exact ⟨by omega,_,0,rfl,by simp [go_sem]⟩
  | succ i=>simp at hx
 have q:=norm_calls (some ⟨w.heap.size,0,none⟩) 1 [(n:Int)] _ hw (by show 1 ≤ 1048576;decide) (Nat.le_refl 1)
 rw [show (valW B64 [(n:Int)]).toNat=n by show ((n:Int) + B64 * 0).toNat=n;omega] at q
 have HQ:=Lib.hid q
 clear q hw
 go_enter Tryz.func135,Tryz.ntmps135
 go_wp2_with (first | (go_at_call 69;refine HQ.out.mono ?_;rintro e w1 ⟨x,rfl,hr,hk⟩) | fail)
 go_ret
 exact ⟨x,rfl,hr.le (by simp),((Keeps.refl w).alloc _).trans hk⟩

set_option maxRecDepth 100000 in
theorem told_any (a:Option Addr) (cap:Nat) (ws:List Int) (w:World) (h:WordsAt w a ws) (hl:ws.length ≤ 1048576) (hc:ws.length ≤ cap) (hv:(natW B64 (valW B64 ws).toNat).length ≤ 64) :
  Calls Tryz.prog 244 #[.slice a ws.length cap] w fun e w'=>∃ x,e=.returned (.tuple #[x,.bool true]) ∧ NatV w.heap.size w' (valW B64 ws).toNat x ∧ Keeps w w':=by
 have HN:=Lib.hid (norm_calls a cap ws w h hl hc)
 obtain ⟨v,hve⟩:∃ v,v=(valW B64 ws).toNat:=⟨_,rfl⟩
 rw [← hve] at hv HN ⊢
 clear hve h
 go_enter Tryz.func244,Tryz.ntmps244
 go_wp2_with (first | (go_at_call 69;refine HN.out.mono ?_;rintro e w1 ⟨x,rfl,hr,hk⟩) | fail)
 have HR:=Lib.hid hr
 obtain ⟨a,cap2,rfl,hc2,-⟩:=natV_len hr
 have q:=fits_calls a _ cap2 w1 (show (natW B64 v).length ≤ 1048576 by omega)
 rw [decide_eq_true hv] at q
 have HF:=Lib.hid q
 clear hr q
 go_wp2_with (first | (go_at_call 146;refine HF.out.mono ?_;rintro e w2 ⟨rfl,rfl⟩) | fail)
 go_ret2
 exact ⟨_,rfl,HR.out,hk⟩

set_option maxRecDepth 100000 in
theorem nboth_two {lo lo' u v:Nat} {x y:Value} {w:World} (hx:NatV lo w u x) (hy:NatV lo' w v y) (hu:(natW B64 u).length ≤ 64) (hv:(natW B64 v).length ≤ 64) :
  Calls Tryz.prog 241 #[x,y] w fun e w'=>∃ x' y' w1,e=.returned (.tuple #[x',y',.bool true]) ∧ NatV w.heap.size w1 u x' ∧ Keeps w w1 ∧ Keeps w1 w' ∧ NatV w1.heap.size w' v y':=by
 have HX:=Lib.hid hx
 have HY:=Lib.hid hy
 clear hx hy
 go_enter Tryz.func241,Tryz.ntmps241
 go_wp2_with (first
  | (go_at_call 69;refine (normV_calls HX.out (by omega)).mono ?_;rintro e w1 ⟨x',rfl,hr1,hk1⟩;have HR1:=Lib.hid hr1;clear hr1 HX)
  | (go_at_call 69;have qq:=HR1;clear qq;refine (normV_calls (HY.out.keeps hk1) (by omega)).mono ?_;rintro e w2 ⟨y',rfl,hr2,hk2⟩;have HR2:=Lib.hid hr2;clear hr2)
  | fail)
 obtain ⟨a1,c1,rfl,-,-⟩:=natV_len HR1.out
 obtain ⟨a2,c2,rfl,-,-⟩:=natV_len HR2.out
 have q1:=fun W=>fits_calls a1 _ c1 W (show (natW B64 u).length ≤ 1048576 by omega)
 have q2:=fun W=>fits_calls a2 _ c2 W (show (natW B64 v).length ≤ 1048576 by omega)
 simp only [decide_eq_true hu] at q1
 simp only [decide_eq_true hv] at q2
 have HF1:=Lib.hid q1
 have HF2:=Lib.hid q2
 clear q1 q2
 go_wp2_with (first
  | (go_at_call 146;refine (HF1.out _).mono ?_;rintro e w3 ⟨rfl,rfl⟩;clear HF1)
  | (go_at_call 146;refine (HF2.out _).mono ?_;rintro e w4 ⟨rfl,rfl⟩;clear HF2)
  | fail)
 go_ret3
 exact ⟨_,_,w1,rfl,HR1.out,hk1,hk2,HR2.out⟩

theorem nboth_calls {lo lo' u v:Nat} {x y:Value} {w:World} (hx:NatV lo w u x) (hy:NatV lo' w v y) (hu:(natW B64 u).length ≤ 64) (hv:(natW B64 v).length ≤ 64) :
  Calls Tryz.prog 241 #[x,y] w fun e w'=>∃ x' y',e=.returned (.tuple #[x',y',.bool true]) ∧ NatV w.heap.size w' u x' ∧ NatV w.heap.size w' v y' ∧ Keeps w w':=by
 refine (nboth_two hx hy hu hv).mono ?_
 rintro e w2 ⟨x',y',w1,rfl,h1,hk1,hk2,h2⟩
 exact ⟨x',y',rfl,h1.keeps hk2,h2.le hk1.size,hk1.trans hk2⟩

theorem told_calls {g:Nat} (cap:Nat) (ws:List Int) (w:World) (h:RowU w g ws) (hok:WordsOk B64 ws) (hl:ws.length ≤ 1048576) (hc:ws.length ≤ cap) (hv:(natW B64 (valW B64 ws).toNat).length ≤ 64) :
  Calls Tryz.prog 244 #[.slice (some ⟨g,0,none⟩) ws.length cap] w fun e w'=>∃ x,e=.returned (.tuple #[x,.bool true]) ∧ NatV w.heap.size w' (valW B64 ws).toNat x ∧ Keeps w w':=told_any _ cap ws w (h.words hok) hl hc hv

theorem rowV_owns {w:World} {lo:Nat} {v:Value} {os:List Int} {n:Nat} (hn:n=os.length) (h:w.ownsRow lo 3 1 v n (os.map (Value.int .i64))):∃ a cap,v=.slice a n cap ∧ RowV lo w a os:=by
 obtain ⟨a,cap,rfl,ha⟩:=owns_slice h
 refine ⟨a,cap,rfl,fun hne=>?_⟩
 obtain ⟨g,rfl⟩:=ha (fun e=>hne (List.length_eq_zero_iff.1 (by omega)))
 obtain ⟨r1,r2⟩:=rowI_owns h
 exact ⟨g,rfl,r2,r1⟩

theorem digit_range {v:Nat} {i:Nat} {x:Int} (h:(natW 10 v)[i]?=some x):0 ≤ x ∧ x ≤ 9:=by
 have:=natW_ok (b:=10) (by decide) v x (List.mem_of_getElem? h)
 omega

def DigOut (w:World) (e:Ending) (w':World) (os:List Int):Prop:=∃ a cap,e=.returned (.slice a os.length cap) ∧ RowV w.heap.size w' a os ∧ Keeps w w'

set_option maxRecDepth 100000 in
set_option maxHeartbeats 400000 in
theorem dbl_calls (a:Option Addr) (cap v:Nat) (c:Int) (w:World) (hc0:0 ≤ c) (hc1:c ≤ 1) (h:IntsAt w a (natW 10 v)) (hl:(natW 10 v).length ≤ 100000) :
  Calls Tryz.prog 86 #[.slice a (natW 10 v).length cap,.int .i64 c] w fun e w'=>DigOut w e w' (natW 10 (2 * v + c.toNat)):=by
 obtain ⟨i0,hi,hz0,hz1,hz2⟩:=info_parts info_int
 obtain ⟨ds,hds⟩:∃ ds,ds=natW 10 v:=⟨_,rfl⟩
 have hrg:∀ (i:Nat) (x:Int),ds[i]?=some x → 0 ≤ x ∧ x ≤ 9:=fun i x hx=>digit_range (v:=v) (by rw [← hds];exact hx)
 obtain ⟨R,hR⟩:∃ R,R=natW 10 (2 * v + c.toNat):=⟨_,rfl⟩
 have hall:([]:List Int) ++ dblL (ds.drop 0) c=R:=by rw [hR,hds,List.drop_zero,List.nil_append,dblL_nat v c hc0 hc1]
 rw [← hds] at h hl ⊢
 rw [← hR]
 clear hds hR
 obtain ⟨N,hN⟩:∃ N,N=ds.length:=⟨_,rfl⟩
 rw [← hN] at hl ⊢
 have HN:=Lib.hid hN
 have HI:=Lib.hid h
 have HRG:=Lib.hid hrg
 have HA:=Lib.hid hall
 clear h hN hrg hall
 go_enter Tryz.func86,Tryz.ntmps86
 go_wp2_with fail
 go_loopg [1,5,6] N (fun gk s1 s5 s6 wr=>∃ (i:Nat) (k:Int) (va:Value) (os:List Int),s1=.int .i64 k ∧ s5=va ∧ s6=.int .i64 (i:Int) ∧ i + gk=N ∧ 0 ≤ k ∧ k ≤ 1 ∧ os.length=i ∧ os ++ dblL (ds.drop i) k=R ∧ wr.ownsRow w.heap.size 3 1 va i (os.map (Value.int .i64)) ∧ Keeps w wr)
 case atStart=>exact ⟨0,c,_,[],rfl,rfl,rfl,by omega,hc0,hc1,rfl,HA.out,World.ownsRow_nil _ _ _ _,by (exact kp)⟩
 case round=>
  obtain ⟨i,k,va,os,rfl,rfl,rfl,hig,k0,k1,hol,hos,ho,hk⟩:=hrel
  obtain ⟨la,lcap,rfl,-⟩:=owns_slice ho
  have HO:=Lib.hid ho
  have HOS:=Lib.hid hos
  have HOL:=Lib.hid hol
  clear ho hos hol
  by_cases hlt:i < N
  ·obtain ⟨x,hx⟩:∃ x,ds[i]?=some x:=⟨_,List.getElem?_eq_getElem (by rw [← HN.out];exact hlt)⟩
   obtain ⟨b,off,rfl,hcell⟩:=(HI.out.keeps hk) i x hx
   obtain ⟨x0,x9⟩:=HRG.out i x hx
   have hbl:=lt_of_cell hcell
   dsimp only at hbl
   have HS:=Lib.hid (dblL_step HOS.out hx)
   have q0:(i:Int) < (N:Int):=by omega
   have q1:i + 1 ≤ maxLen:=by unfold maxLen;omega
   have q2:(i + 1) * 8 ≤ 140737488355328:=by omega
   clear hx
   go_wp2_with (first
    | (at_builtin;refine wpList_append_own _ rfl _ _ 38 rfl w.heap.size 3 i0 (.int .i64 0) 1 8 Tryz.underlying38 hi hz0 hz1 hz2 rfl (by decide) (.slice la i lcap) i (os.map (Value.int .i64)) rfl (HO.out.alloc _) ⟨wr.heap.size,0,none⟩ 1 1 [.int .i64 ((2 * x + k) % 10)] rfl rfl (cell_new _ _ _ _ rfl) (by simp [Value.oneCell']) (by exact q1) (by exact q2) (by have:=hk.size;simp;omega) ?_;intro v3 w3 hown3 hg3 _)
    | fail)
   go_roundg (gk - 1)
   case rel=>
    have hu3:Upd (fun k=>(Value.slice la i lcap).ownBlock=some k) wr w3:=Upd.grown (by repeat (first | exact Upd.refl _ _ | refine Upd.alloc ?_ _ | refine Upd.drew ?_)) hg3 (fun k hk=>.inl hk)
    refine ⟨i + 1,(2 * x + k) / 10,_,os ++ [(2 * x + k) % 10],rfl,rfl,congrArg (Value.int .i64) (by omega),by omega,by omega,by omega,by rw [List.length_append,HOL.out];rfl,HS.out,by rw [List.map_append];exact hown3,hk.new hu3 (fun k hk2=>?_)⟩
    rcases HO.out.2 with ⟨e0,_⟩ | ⟨g',cap',cur,e0,hbg,_⟩
    ·rw [e0] at hk2;simp [Value.ownBlock] at hk2
    ·rw [e0] at hk2;simp [Value.ownBlock] at hk2;omega
   case measure=>omega
  ·have hiN:i=N:=by omega
   subst hiN
   have q0:¬ (i:Int) < (i:Int):=by omega
   have HE:=Lib.hid (dblL_end (l:=ds) (os:=os) (c:=k) (R:=R) (by rw [← HN.out];exact HOS.out))
   by_cases hk0:0 < k
   ·have q1:i + 1 ≤ maxLen:=by unfold maxLen;omega
    have q2:(i + 1) * 8 ≤ 140737488355328:=by omega
    go_wp2_with (first
     | (at_builtin;refine wpList_append_own _ rfl _ _ 38 rfl w.heap.size 3 i0 (.int .i64 0) 1 8 Tryz.underlying38 hi hz0 hz1 hz2 rfl (by decide) (.slice la i lcap) i (os.map (Value.int .i64)) rfl (HO.out.alloc _) ⟨wr.heap.size,0,none⟩ 1 1 [.int .i64 k] rfl rfl (cell_new _ _ _ _ rfl) (by simp [Value.oneCell']) (by exact q1) (by exact q2) (by have:=hk.size;simp;omega) ?_;intro v3 w3 hown3 hg3 _)
     | fail)
    have hu3:Upd (fun k=>(Value.slice la i lcap).ownBlock=some k) wr w3:=Upd.grown (by repeat (first | exact Upd.refl _ _ | refine Upd.alloc ?_ _ | refine Upd.drew ?_)) hg3 (fun k hk=>.inl hk)
    have hkk:Keeps w w3:=hk.new hu3 (fun k hk2=>by
     rcases HO.out.2 with ⟨e0,_⟩ | ⟨g',cap',cur,e0,hbg,_⟩
     ·rw [e0] at hk2;simp [Value.ownBlock] at hk2
     ·rw [e0] at hk2;simp [Value.ownBlock] at hk2;omega)
    have hRe:R=os ++ [k]:=by rw [HE.out,if_pos hk0]
    have hRl:i + 1=R.length:=by rw [hRe,List.length_append,HOL.out];rfl
    obtain ⟨a',cap',rfl,hrv⟩:=rowV_owns (os:=R) (n:=i + 1) hRl (by rw [hRe,List.map_append];exact hown3)
    have HRL:=Lib.hid hRl
    have HRV:=Lib.hid hrv
    clear hRe hRl hrv
    go_wp2_with fail
    refine bodyPost_ret (v:=.slice a' (i + 1) cap') (by simp [results,Tryz.results86,go_sem]) rfl ⟨a',cap',by rw [← HRL.out],HRV.out,hkk⟩
   ·have hRe:R=os:=by rw [HE.out,if_neg hk0]
    have HRE:=Lib.hid hRe
    clear hRe
    go_wp2_with fail
    go_ret
    obtain ⟨a',cap',e1,hrv⟩:=rowV_owns (os:=R) (n:=i) (by rw [HRE.out,HOL.out]) (by rw [HRE.out];exact HO.out)
    cases e1
    exact ⟨la,lcap,by rw [HRE.out,HOL.out];rfl,hrv,hk⟩

end Go.Proofs.YtpgcbmbnognieaaGreat
