/-
  Built: a store and the document's, behind records that are found.
-/
import Derived.Test.YtpgcbmbnognieaaGreatPRefB
namespace Go.Proofs.YtpgcbmbnognieaaGreat
set_option linter.unusedSimpArgs false
set_option linter.unusedVariables false
set_option maxHeartbeats 600000
open Go.RowKit

def IsRecs (w:World) (a:Option Addr) (len:Nat) (rs:List Rec):Prop:=
 rs.length=len ∧ ∀ i r,rs[i]?=some r → r.ok ∧ ∃ b off,a=some ⟨b,off,none⟩ ∧ ∀ j,j < 7 → w.cell? ⟨b,off + i * 7 + j,none⟩=(recVals r)[j]?

theorem Keeps.new {F:Nat → Prop} {w W W1:World} (h:Keeps w W) (hu:Upd F W W1) (hf:∀ k,F k → w.heap.size ≤ k):Keeps w W1:=by
 have hs:=h.size
 refine ⟨hu.os.trans h.os,hu.tape.trans h.tape,hu.output.trans h.output,Nat.le_trans hs hu.size,fun k hk=>?_⟩
 rw [hu.block k (by omega) (fun hh=>by have:=hf k hh;omega),h.block k hk]

structure Both (w0 w:World) (sb mb:Nat) (M:St) (L:List (Int × Rec)):Prop where
 ex:∃ F G,StoreRep F w sb M ∧ RefRep G w mb M L ∧ (∀ k,F k → ¬ G k) ∧ (∀ k,F k → w0.heap.size ≤ k) ∧ (∀ k,G k → w0.heap.size ≤ k)
 keep:Keeps w0 w

theorem Both.keeps {w0 w W:World} {sb mb:Nat} {M:St} {L:List (Int × Rec)} (h:Both w0 w sb mb M L) (hk:Keeps w W):Both w0 W sb mb M L:=by
 obtain ⟨⟨F,G,h1,h2,h3⟩,h4⟩:=h
 exact ⟨⟨F,G,h1.keeps hk,h2.keeps hk,h3⟩,h4.trans hk⟩

theorem Both.step {w0 w w1 w1' w2:World} {sb mb:Nat} {M M':St} {L L':List (Int × Rec)} {F G:Nat → Prop} (h1:StoreRep F w sb M) (h2:RefRep G w mb M L) (h3:∀ k,F k → ¬ G k) (h4:∀ k,F k → w0.heap.size ≤ k) (h5:∀ k,G k → w0.heap.size ≤ k) (h6:Keeps w0 w)
  (u1:Upd F w w1) (s1:StoreRep (Grow F w w1) w1 sb M') (k1:Keeps w1 w1') (u2:Upd G w1' w2) (s2:RefRep (Grow G w1' w2) w2 mb M' L'):Both w0 w2 sb mb M' L':=by
 have z0:=h6.size
 have z1:=u1.size
 have z2:=k1.size
 refine ⟨⟨Grow F w w1,Grow G w1' w2,(s1.keeps k1).keep u2 ?_,s2,?_,?_,?_⟩,((h6.new u1 h4).trans k1).new u2 h5⟩
 ·intro k hk hg
  rcases hk with hk | hk
  ·exact h3 k hk hg
  ·have:=h2.lt k hg
   omega
 ·intro k hk hg
  have hl:=s1.lt k hk
  rcases hg with hg | hg
  ·rcases hk with hk | hk
   ·exact h3 k hk hg
   ·have:=h2.lt k hg
    omega
  ·omega
 ·intro k hk
  rcases hk with hk | hk
  ·exact h4 k hk
  ·omega
 ·intro k hk
  rcases hk with hk | hk
  ·exact h5 k hk
  ·omega

theorem findSt_n (M:St) (r:Rec):(M.findSt r).n=M.n:=by
 unfold St.findSt
 split
 ·rfl
 ·split
  ·rfl
  ·split
   ·rfl
   ·rfl

theorem findSt_room (M:St) (r:Rec):(M.findSt r).room=M.room:=by
 unfold St.findSt
 split
 ·rfl
 ·split
  ·rfl
  ·split
   ·rfl
   ·rfl

theorem findSt_len (M:St) (r:Rec):M.len ≤ (M.findSt r).len ∧ (M.findSt r).len ≤ M.len + 1:=by
 unfold St.findSt
 split
 ·omega
 ·split
  ·omega
  ·split
   ·omega
   ·have:=putLen (cs:=M.cs) (gone:=M.gone) (r:=r)
    unfold St.len
    simp only []
    omega

set_option maxRecDepth 100000 in
theorem built' (n room:Int) (a:Option Addr) (len cap:Nat) (rs:List Rec) (w:World) (h0:0 ≤ n) (h1:n ≤ 16) (h2:0 ≤ room) (h3:room ≤ 1048576) (hl:len ≤ 1048576) (hrs:IsRecs w a len rs) :
  Calls Tryz.prog 12 #[.int .i64 n,.int .i64 room,.slice a len cap] w fun e w'=>∃ sb mb M L,e=.returned (.tuple #[.pointer (some ⟨sb,0,none⟩),.pointer (some ⟨mb,0,none⟩),.bool true]) ∧ Both w w' sb mb M L ∧ M.n=n ∧ M.room=room ∧ M.len ≤ len:=by
 have HR:=Lib.hid hrs
 clear hrs
 go_enter Tryz.func12,Tryz.ntmps12
 go_wp2_with (go_at_call 63;refine (store_new n room _ h0 h1 h2 h3).mono ?_;rintro e w1 ⟨sb,F,rfl,hk,hF,hS⟩)
 have hB0:Both w (w1.alloc (.cells #[.slice none 0 0,.slice none 0 0,.int .u32 0,.int .i64 n,.int .i64 room] 121)) sb w1.heap.size (St.new n room) []:=by
  refine ⟨⟨F,fun k=>k=w1.heap.size,hS.keeps ((Keeps.refl _).alloc _),?_,?_,hF,?_⟩,hk.alloc _⟩
  ·refine ⟨⟨.slice none 0 0,.slice none 0 0,heap_alloc_new w1 _,World.ownsRow_nil _ _ _ _,World.ownsRow_nil _ _ _ _,fun k hk=>by simp [Value.ownBlock] at hk,fun k hk=>by simp [Value.ownBlock] at hk⟩,rfl,?_,St.new_wf h0 h1 h2 h3,?_,?_,?_,?_,?_⟩
   ·intro k hk;subst hk;simp
   ·intro id r;simp [St.new,look_nil]
   ·simp
   ·simp [St.len,St.new]
   ·simp [St.new]
   ·intro p hp;simp at hp
  ·intro k hk e
   subst e
   exact Nat.lt_irrefl _ (hS.lt _ hk)
  ·intro k e
   subst e
   exact hk.size
 clear hS hF
 have hmb:∃ mb,mb=w1.heap.size:=⟨_,rfl⟩
 go_loopg [12] len (fun gk i wr=>∃ (d:Nat) (M:St) (L:List (Int × Rec)),d + gk=len ∧ i=.int .i64 (d:Int) ∧ Both w wr sb w1.heap.size M L ∧ M.n=n ∧ M.room=room ∧ M.len ≤ d)
 case atStart=>exact ⟨0,_,_,by omega,rfl,hB0,rfl,rfl,by simp [St.new,St.len]⟩
 case round=>
  obtain ⟨d,M,L,hd,rfl,hB,hMn,hMr,hMl⟩:=hrel
  by_cases hlt:d < len
  ·obtain ⟨r,hr⟩:∃ r,rs[d]?=some r:=⟨_,List.getElem?_eq_getElem (by rw [HR.out.1];exact hlt)⟩
   obtain ⟨hok,b,off,rfl,hc⟩:=HR.out.2 d r hr
   have hsv:=fun j hj=>(hc j hj).trans (List.getElem?_eq_getElem (show j < (recVals r).length from hj))
   have s0:=hsv 0 (by omega)
   have s1:=hsv 1 (by omega)
   have s2:=hsv 2 (by omega)
   have s3:=hsv 3 (by omega)
   have s4:=hsv 4 (by omega)
   have s5:=hsv 5 (by omega)
   have s6:=hsv 6 (by omega)
   simp [recVals] at s0 s1 s2 s3 s4 s5 s6
   clear hsv hc
   obtain ⟨⟨F',G',q1,q2,q3,q4,q5⟩,q6⟩:=hB
   have t0:=q6.cell s0
   have t1:=q6.cell s1
   have t2:=q6.cell s2
   have t3:=q6.cell s3
   have t4:=q6.cell s4
   have t5:=q6.cell s5
   have t6:=q6.cell s6
   have HS:=Lib.hid q1
   have HM:=Lib.hid q2
   have HD:=Lib.hid q3
   have H4:=Lib.hid q4
   have H5:=Lib.hid q5
   have H6:=Lib.hid q6
   have HC:=Lib.hid (And.intro s0 (And.intro s1 (And.intro s2 (And.intro s3 (And.intro s4 (And.intro s5 s6))))))
   clear q1 q2 q3 q4 q5 q6 s0 s1 s2 s3 s4 s5 s6
   have hb0:b < wr.heap.size:=lt_of_cell t0
   go_wp2_with (first | (go_at_call 64;refine (store_find HS.out r hok).mono ?_;rintro e w2 ⟨rfl,hu,hS2⟩;have hkk:=Lib.hid (H6.out.new hu H4.out);have v0:=hkk.out.cell HC.out.1;have v1:=hkk.out.cell HC.out.2.1;have v2:=hkk.out.cell HC.out.2.2.1;have v3:=hkk.out.cell HC.out.2.2.2.1;have v4:=hkk.out.cell HC.out.2.2.2.2.1;have v5:=hkk.out.cell HC.out.2.2.2.2.2.1;have v6:=hkk.out.cell HC.out.2.2.2.2.2.2;have HU:=Lib.hid hu;have HS2:=Lib.hid hS2;clear hu hS2 t0 t1 t2 t3 t4 t5 t6) | (go_at_call 65;refine (ref_find (HM.out.keep HU.out (fun k hk hf=>HD.out k hf hk)) r hok).mono ?_;rintro e w3 ⟨rfl,hu3,hS3⟩;have hB3:=Both.step HS.out HM.out HD.out H4.out H5.out H6.out HU.out HS2.out (Keeps.refl _) hu3 hS3) | fail)
   go_roundg (gk - 1)
   case rel=>exact ⟨d + 1,_,_,by omega,by simp,hB3,by rw [findSt_n];exact hMn,by rw [findSt_room];exact hMr,by have:=(findSt_len M r).2;push_cast;omega⟩
   case measure=>omega
  ·go_wp2
   exact bodyPost_ret (v:=.tuple #[.pointer (some ⟨sb,0,none⟩),.pointer (some ⟨w1.heap.size,0,none⟩),.bool true]) (by simp [results,Tryz.results12,go_sem]) rfl ⟨sb,w1.heap.size,M,L,rfl,hB,hMn,hMr,by omega⟩

set_option maxRecDepth 100000 in
theorem same_low (sb mb:Nat) (n room:Int) (a:Option Addr) (len cap:Nat) (ids:Nat → Int) (rs:Nat → Rec) (w:World) (hl:len ≤ 1048576)
  (c0:w.cell? ⟨mb,0,none⟩=some (.slice a len cap)) (c3:w.cell? ⟨mb,3,none⟩=some (.int .i64 n)) (c4:w.cell? ⟨mb,4,none⟩=some (.int .i64 room))
  (hln:∀ W,Keeps w W → Calls Tryz.prog 44 #[.pointer (some ⟨sb,0,none⟩)] W fun e w'=>e=.returned (.int .i64 (len:Int)) ∧ W=w')
  (hvs:∀ W,Keeps w W → Calls Tryz.prog 67 #[.pointer (some ⟨sb,0,none⟩)] W fun e w'=>e=.returned (.int .i64 n) ∧ W=w')
  (hrm:∀ W,Keeps w W → Calls Tryz.prog 79 #[.pointer (some ⟨sb,0,none⟩)] W fun e w'=>e=.returned (.int .i64 room) ∧ W=w')
  (hv:∀ i,i < len → ∃ lb,a=some ⟨lb,0,none⟩ ∧ ∀ j,j < 8 → w.cell? ⟨lb,i * 8 + j,none⟩=(nodeVals (ids i,rs i))[j]?)
  (hget:∀ i,i < len → ∀ W,Keeps w W → Calls Tryz.prog 80 #[.pointer (some ⟨sb,0,none⟩),.int .u32 (ids i)] W fun e w'=>e=.returned (.tuple #[.agg #[.int .u8 (rs i).form,.int .u8 (rs i).top,.int .u8 (rs i).bot,.int .u8 (rs i).lo.tag,.int .u32 (rs i).lo.to,.int .u8 (rs i).hi.tag,.int .u32 (rs i).hi.to],.bool true]) ∧ Keeps W w')
  (hhas:∀ i,i < len → ∀ W,Keeps w W → Calls Tryz.prog 81 #[.pointer (some ⟨sb,0,none⟩),.agg #[.int .u8 (rs i).form,.int .u8 (rs i).top,.int .u8 (rs i).bot,.int .u8 (rs i).lo.tag,.int .u32 (rs i).lo.to,.int .u8 (rs i).hi.tag,.int .u32 (rs i).hi.to]] W fun e w'=>e=.returned (.tuple #[.int .u32 (ids i),.bool true]) ∧ Keeps W w') :
  Calls Tryz.prog 18 #[.pointer (some ⟨sb,0,none⟩),.pointer (some ⟨mb,0,none⟩)] w fun e w'=>e=.returned (.bool true) ∧ Keeps w w':=by
 have HLn:=Lib.hid hln
 have HVs:=Lib.hid hvs
 have HRm:=Lib.hid hrm
 have HV:=Lib.hid hv
 have HG:=Lib.hid hget
 have HH:=Lib.hid hhas
 clear hln hvs hrm hv hget hhas
 go_enter Tryz.func18,Tryz.ntmps18
 go_wp2_with fail
 have d0k:=KWorld.cell c0
 have d3k:=KWorld.cell c3
 have d4k:=KWorld.cell c4
 refine wp_region_keeps (w) (by kernel_rfl) (by kernel_rfl) (by (exact kp)) ?_;(repeat (go_big_quiet_step ((first | (go_at_call 44;with_reducible refine Calls.sameK (HLn.out _ (KWorld.keep _))) | (go_at_call 67;with_reducible refine Calls.sameK (HVs.out _ (KWorld.keep _))) | (go_at_call 79;with_reducible refine Calls.sameK (HRm.out _ (KWorld.keep _)))))));refine wpQuiet_nil ?_;rintro wq ⟨⟨_,hkq⟩,rfl⟩;try dsimp only
 go_wp2_with fail
 go_loopg [5] len (fun gk i wr=>∃ d:Nat,d + gk=len ∧ i=.int .i64 (d:Int) ∧ Keeps w wr)
 case atStart=>exact ⟨0,by omega,rfl,hkq⟩
 case round=>
  obtain ⟨d,hd,rfl,hk⟩:=hrel
  have i0:=hk.cell c0
  have hmb:mb < wr.heap.size:=lt_of_cell i0
  by_cases hlt:d < len
  ·obtain ⟨lb,rfl,hc⟩:=HV.out d hlt
   have hsv:=fun j hj=>hk.cell ((hc j hj).trans (List.getElem?_eq_getElem (by rw [nodeVals_length];exact hj)))
   have s0:=hsv 0 (by omega)
   have s1:=hsv 1 (by omega)
   have s2:=hsv 2 (by omega)
   have s3:=hsv 3 (by omega)
   have s4:=hsv 4 (by omega)
   have s5:=hsv 5 (by omega)
   have s6:=hsv 6 (by omega)
   have s7:=hsv 7 (by omega)
   simp [nodeVals,recVals] at s0 s1 s2 s3 s4 s5 s6 s7
   have hlb:lb < wr.heap.size:=lt_of_cell s0
   clear hsv hc
   have HGd:=Lib.hid (HG.out d hlt)
   have HHd:=Lib.hid (HH.out d hlt)
   have hq:∀ W,(binOp .neq 125 (.agg #[.int .u8 (rs d).form,.int .u8 (rs d).top,.int .u8 (rs d).bot,.int .u8 (rs d).lo.tag,.int .u32 (rs d).lo.to,.int .u8 (rs d).hi.tag,.int .u32 (rs d).hi.to]) (.agg #[.int .u8 (rs d).form,.int .u8 (rs d).top,.int .u8 (rs d).bot,.int .u8 (rs d).lo.tag,.int .u32 (rs d).lo.to,.int .u8 (rs d).hi.tag,.int .u32 (rs d).hi.to])).run Tryz.prog W=.ok (.bool false) W:=fun W=>by rw [run_neq_rec];simp
   go_wp2_with (go_at_call 80;refine (HGd.out _ hk).mono ?_;rintro e w2 ⟨rfl,hb⟩;have hk2:=hk.trans hb;have j0:=hb.cell i0;have v0:=hb.cell s0;have v1:=hb.cell s1;have v2:=hb.cell s2;have v3:=hb.cell s3;have v4:=hb.cell s4;have v5:=hb.cell s5;have v6:=hb.cell s6;have v7:=hb.cell s7;have hsz:=hb.size;have hmb2:mb < w2.heap.size:=(by omega);have hlb2:lb < w2.heap.size:=(by omega))
   refine (HHd.out _ (by (exact kp))).mono ?_
   rintro e w3 ⟨rfl,hb3⟩
   have hb4:Keeps (w2.alloc (.cells #[.int .u8 (rs d).form,.int .u8 (rs d).top,.int .u8 (rs d).bot,.int .u8 (rs d).lo.tag,.int .u32 (rs d).lo.to,.int .u8 (rs d).hi.tag,.int .u32 (rs d).hi.to] 125)) w3:=hb3
   obtain ⟨b0,b1,b2,b3,b4,b5,b6⟩:=box7 hb4
   have hb5:Keeps w2 w3:=((Keeps.refl _).alloc _).trans hb4
   have hk3:Keeps w w3:=hk2.trans hb5
   have p0:=hb5.cell j0
   have r0:=hb5.cell v0
   have r1:=hb5.cell v1
   have r2:=hb5.cell v2
   have r3:=hb5.cell v3
   have r4:=hb5.cell v4
   have r5:=hb5.cell v5
   have r6:=hb5.cell v6
   have r7:=hb5.cell v7
   clear i0 s0 s1 s2 s3 s4 s5 s6 s7 j0 v0 v1 v2 v3 v4 v5 v6 v7 hb3 hb4
   go_wp2_with fail
   go_quiet (fail)
   go_wp2
   go_roundg (gk - 1)
   case rel=>exact ⟨d + 1,by omega,by simp,by (exact kp)⟩
   case measure=>omega
  ·have hdl:¬ (d:Int) < (len:Int):=by omega
   go_wp2
   go_ret
   exact ⟨rfl,by (exact kp)⟩

theorem RefRep.room {F:Nat → Prop} {w:World} {mb:Nat} {M:St} {L:List (Int × Rec)} (h:RefRep F w mb M L):w.cell? ⟨mb,4,none⟩=some (.int .i64 M.room):=by
 obtain ⟨⟨lv,gv,h1,-⟩,-⟩:=h
 rw [cell_of_row w mb 4 _ _ _ h1]
 rfl

theorem same_both {w0 w:World} {sb mb:Nat} {M:St} {L:List (Int × Rec)} (h:Both w0 w sb mb M L) :
  Calls Tryz.prog 18 #[.pointer (some ⟨sb,0,none⟩),.pointer (some ⟨mb,0,none⟩)] w fun e w'=>e=.returned (.bool true) ∧ Keeps w w':=by
 obtain ⟨⟨F,G,hS,hR,-⟩,-⟩:=h
 obtain ⟨a,cap,c0,hc⟩:=hR.cell
 have c3:w.cell? ⟨mb,3,none⟩=some (.int .i64 M.n):=by
  obtain ⟨⟨lv,gv,h1,-⟩,-⟩:=hR
  rw [cell_of_row w mb 3 _ _ _ h1]
  rfl
 have hat:∀ i,i < L.length → look M.cs (L[i]?.getD (0,Rec.zero)).1=some (L[i]?.getD (0,Rec.zero)).2:=fun i hi=>by
  rw [List.getElem?_eq_getElem hi]
  exact (hR.mem _ _).1 (List.getElem_mem hi)
 refine same_low sb mb M.n M.room a L.length cap (fun i=>(L[i]?.getD (0,Rec.zero)).1) (fun i=>(L[i]?.getD (0,Rec.zero)).2) w hR.le c0 c3 hR.room ?_ (fun W hW=>store_vars (hS.keeps hW)) (fun W hW=>store_room (hS.keeps hW)) ?_ ?_ ?_
 ·intro W hW
  rw [hR.len]
  exact store_len (hS.keeps hW)
 ·intro i hi
  obtain ⟨lb,rfl,_,hv⟩:=hc (by omega)
  refine ⟨lb,rfl,fun j hj=>?_⟩
  rw [hv i _ (List.getElem?_eq_getElem hi) j hj,List.getElem?_eq_getElem hi]
  rfl
 ·intro i hi W hW
  have hl:=hat i hi
  have hid:=(look_some hl).2.1
  have hfew:=hR.few
  have:=store_get (hS.keeps hW) (L[i]?.getD (0,Rec.zero)).1 (by omega)
  rw [hl] at this
  exact this
 ·intro i hi W hW
  have hl:=hat i hi
  have hok:=hR.fit _ (List.getElem_mem hi)
  have e:L[i]?.getD (0,Rec.zero)=L[i]:=by rw [List.getElem?_eq_getElem hi];rfl
  have:=store_has (hS.keeps hW) (L[i]?.getD (0,Rec.zero)).2 (by rw [e];exact hok)
  rw [(idOf_iff hS.once _ _).1 hl] at this
  exact this

end Go.Proofs.YtpgcbmbnognieaaGreat
