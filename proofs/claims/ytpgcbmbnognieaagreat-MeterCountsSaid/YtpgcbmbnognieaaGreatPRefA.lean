/-
  The document's store (ramageref11): how it lies in memory; At, Has.
-/
import Derived.Test.YtpgcbmbnognieaaGreatPSFindA
namespace Go.Proofs.YtpgcbmbnognieaaGreat
set_option linter.unusedSimpArgs false
set_option linter.unusedVariables false
set_option maxHeartbeats 600000
open Go.RowKit

def nodeVals (p:Int × Rec):List Value:=.int .u32 p.1 :: recVals p.2

theorem nodeVals_length (p:Int × Rec):(nodeVals p).length=8:=rfl

set_option maxRecDepth 100000 in
theorem ref_at_low (mb:Nat) (a:Option Addr) (len cap D:Nat) (id:Int) (ids:Nat → Int) (w:World) (h0:w.cell? ⟨mb,0,none⟩=some (.slice a len cap)) (hl:len ≤ 1048576)
  (hv:∀ i,i < len → ∃ lb,a=some ⟨lb,0,none⟩ ∧ w.cell? ⟨lb,i * 8,none⟩=some (.int .u32 (ids i)))
  (hD:D ≤ len) (hgo:∀ d,d < D → ids d ≠ id) (hstop:D < len → ids D=id) :
  Calls Tryz.prog 89 #[.pointer (some ⟨mb,0,none⟩),.int .u32 id] w fun e w'=>e=.returned (.int .i64 (if D < len then (D:Int) else -1)) ∧ w=w':=by
 have HV:=Lib.hid hv
 have HG:=Lib.hid hgo
 have HS:=Lib.hid hstop
 clear hv hgo hstop
 go_enter Tryz.func89,Tryz.ntmps89
 go_wp2
 go_loopg [5] D (fun gk i wr=>∃ d:Nat,d + gk=D ∧ i=.int .i64 (d:Int) ∧ w=wr)
 case atStart=>exact ⟨0,by omega,rfl,rfl⟩
 case round=>
  obtain ⟨d,hd,rfl,rfl⟩:=hrel
  by_cases hg:gk=0
  ·subst hg
   have ed:d=D:=by omega
   subst ed
   by_cases hlt:d < len
   ·obtain ⟨lb,rfl,hc⟩:=HV.out d hlt
    rw [HS.out hlt] at hc
    go_wp2
    go_ret
    exact ⟨by simp [hlt],rfl⟩
   ·go_wp2
    go_ret
    exact ⟨by simp [hlt],rfl⟩
  ·have hlt:d < len:=by omega
   obtain ⟨lb,rfl,hc⟩:=HV.out d hlt
   have hne:=HG.out d (by omega)
   go_wp2
   go_roundg (gk - 1)
   case rel=>exact ⟨d + 1,by omega,by simp,rfl⟩
   case measure=>omega

set_option maxRecDepth 100000 in
theorem ref_has_low (mb:Nat) (a:Option Addr) (len cap D:Nat) (r:Rec) (ids:Nat → Int) (rs:Nat → Rec) (w:World) (h0:w.cell? ⟨mb,0,none⟩=some (.slice a len cap)) (hl:len ≤ 1048576)
  (hv:∀ i,i < len → ∃ lb,a=some ⟨lb,0,none⟩ ∧ ∀ j,j < 8 → w.cell? ⟨lb,i * 8 + j,none⟩=(nodeVals (ids i,rs i))[j]?)
  (hD:D ≤ len) (hgo:∀ d,d < D → rs d ≠ r) (hstop:D < len → rs D=r) :
  Calls Tryz.prog 133 #[.pointer (some ⟨mb,0,none⟩),.agg #[.int .u8 r.form,.int .u8 r.top,.int .u8 r.bot,.int .u8 r.lo.tag,.int .u32 r.lo.to,.int .u8 r.hi.tag,.int .u32 r.hi.to]] w fun e w'=>e=.returned (.int .u32 (if D < len then ids D else 0)) ∧ Keeps w w':=by
 have hmb:mb < w.heap.size:=lt_of_cell h0
 have HV:=Lib.hid hv
 have HG:=Lib.hid hgo
 have HS:=Lib.hid hstop
 clear hv hgo hstop
 go_enter Tryz.func133,Tryz.ntmps133
 go_wp2
 have i0:(w.alloc (.cells #[.int .u8 r.form,.int .u8 r.top,.int .u8 r.bot,.int .u8 r.lo.tag,.int .u32 r.lo.to,.int .u8 r.hi.tag,.int .u32 r.hi.to] 125)).cell? ⟨mb,0,none⟩=some (.slice a len cap):=by simp [go_sem,hmb,h0]
 have HI:=Lib.hid i0
 clear i0
 go_loopg [5] D (fun gk i wr=>∃ d:Nat,d + gk=D ∧ i=.int .i64 (d:Int) ∧ Keeps (w.alloc (.cells #[.int .u8 r.form,.int .u8 r.top,.int .u8 r.bot,.int .u8 r.lo.tag,.int .u32 r.lo.to,.int .u8 r.hi.tag,.int .u32 r.hi.to] 125)) wr)
 case atStart=>exact ⟨0,by omega,rfl,Keeps.refl _⟩
 case round=>
  obtain ⟨d,hd,rfl,hk⟩:=hrel
  obtain ⟨q0,q1,q2,q3,q4,q5,q6⟩:=box7 hk
  have i0:=hk.cell HI.out
  have hw:Keeps w wr:=((Keeps.refl w).alloc _).trans hk
  by_cases hlt:d < len
  ·obtain ⟨lb,rfl,hc⟩:=HV.out d hlt
   have hsv:=fun j hj=>hw.cell ((hc j hj).trans (List.getElem?_eq_getElem (by rw [nodeVals_length];exact hj)))
   have s0:=hsv 0 (by omega)
   have s1:=hsv 1 (by omega)
   have s2:=hsv 2 (by omega)
   have s3:=hsv 3 (by omega)
   have s4:=hsv 4 (by omega)
   have s5:=hsv 5 (by omega)
   have s6:=hsv 6 (by omega)
   have s7:=hsv 7 (by omega)
   simp [nodeVals,recVals] at s0 s1 s2 s3 s4 s5 s6 s7
   clear hsv hc
   by_cases hg:gk=0
   ·subst hg
    have ed:d=D:=by omega
    subst ed
    have er:=HS.out hlt
    have hq:∀ W,(binOp .eql 125 (.agg #[.int .u8 (rs d).form,.int .u8 (rs d).top,.int .u8 (rs d).bot,.int .u8 (rs d).lo.tag,.int .u32 (rs d).lo.to,.int .u8 (rs d).hi.tag,.int .u32 (rs d).hi.to]) (.agg #[.int .u8 r.form,.int .u8 r.top,.int .u8 r.bot,.int .u8 r.lo.tag,.int .u32 r.lo.to,.int .u8 r.hi.tag,.int .u32 r.hi.to])).run Tryz.prog W=.ok (.bool true) W:=fun W=>by rw [run_eql_rec];simp [er]
    go_wp2_with fail
    go_quiet (fail)
    go_wp2
    go_ret
    exact ⟨by simp [hlt],by (exact kp)⟩
   ·have hne:=HG.out d (by omega)
    have hq:∀ W,(binOp .eql 125 (.agg #[.int .u8 (rs d).form,.int .u8 (rs d).top,.int .u8 (rs d).bot,.int .u8 (rs d).lo.tag,.int .u32 (rs d).lo.to,.int .u8 (rs d).hi.tag,.int .u32 (rs d).hi.to]) (.agg #[.int .u8 r.form,.int .u8 r.top,.int .u8 r.bot,.int .u8 r.lo.tag,.int .u32 r.lo.to,.int .u8 r.hi.tag,.int .u32 r.hi.to])).run Tryz.prog W=.ok (.bool false) W:=fun W=>by rw [run_eql_rec];simp [hne]
    go_wp2_with fail
    go_quiet (fail)
    go_wp2
    go_roundg (gk - 1)
    case rel=>exact ⟨d + 1,by omega,by simp,by (exact kp)⟩
    case measure=>omega
  ·have ed:d=D:=by omega
   subst ed
   go_wp2
   go_ret
   exact ⟨by simp [hlt],by (exact kp)⟩

theorem refplain_calls (f t a l n:Int) (w:World) (ht1:0 ≤ t) (ht2:t ≤ 255) :
  Calls Tryz.prog 140 #[.int .u8 f,.agg #[.int .u8 t,.int .u32 a],.int .i64 l,.int .i64 n] w fun r w'=>r=.returned (.bool (plainB f ⟨t,a⟩ l n)) ∧ Keeps w w':=by
 go_enter Tryz.func140,Tryz.ntmps140
 go_wp2
 all_goals (go_ret;refine ⟨?_,(Keeps.refl _).alloc _⟩)
 all_goals simp_all [plainB,isFormB,mayB]
 all_goals (try omega)

theorem rightB_good (f t b lt la ht ha n:Int) (g1:1 ≤ f) (g2:f ≤ 5) (g3:0 ≤ n) (g4:n ≤ 16) (g5:t ≤ b) (g6:b < n) (ha1:0 ≤ ha) :
  rightB ⟨f,t,b,⟨lt,la⟩,⟨ht,ha⟩⟩ n=if t < b ∧ f ≠ 3 ∧ f ≠ 4 then false else if plainB f ⟨lt,la⟩ (b + 1) n=true ∧ plainB f ⟨ht,ha⟩ (b + 1) n=true then (if f=2 ∨ f=4 then decide (0 < ha) else decide (la ≠ ha ∨ lt ≠ ht)) else false:=by
 have e1:isFormB f=true:=by simp [isFormB,g1,g2]
 have e2:mayB n=true:=by simp [mayB,g3,g4]
 have e3:decide (b < t)=false:=decide_eq_false (by omega)
 have e4:decide (n ≤ b)=false:=decide_eq_false (by omega)
 have e5:(t != b && !chainedB f)=decide (t < b ∧ f ≠ 3 ∧ f ≠ 4):=by
  by_cases h1:t=b
  ·have:¬ t < b:=by omega
   simp [h1]
  ·have:t < b:=by omega
   by_cases h2:f=3 <;> by_cases h3:f=4 <;> simp [chainedB,h1,h2,h3,this]
 unfold rightB
 dsimp only
 rw [e1,e2,e3,e4,e5]
 by_cases c1:t < b ∧ f ≠ 3 ∧ f ≠ 4
 ·rw [if_pos c1,if_pos (by simp [c1])]
 ·rw [if_neg c1,if_neg (by simp;intro x y;exact Classical.byContradiction fun z=>c1 ⟨x,y,z⟩)]
  cases plainB f ⟨lt,la⟩ (b + 1) n <;> cases plainB f ⟨ht,ha⟩ (b + 1) n <;> simp
  by_cases c2:f=2 ∨ f=4
  ·rw [if_pos c2]
   have e6:(f=2 ∨ f=4)=True:=eq_true c2
   simp only [e6,if_true]
   by_cases c3:ha=0
   ·subst c3;rfl
   ·have:0 < ha:=by omega
    simp [c3,this]
  ·by_cases x:lt=ht <;> by_cases y:la=ha <;> simp [c2,x,y]

theorem refright_calls (r:Rec) (hr:r.ok) (n:Int) (w:World) :
  Calls Tryz.prog 134 #[.agg #[.int .u8 r.form,.int .u8 r.top,.int .u8 r.bot,.int .u8 r.lo.tag,.int .u32 r.lo.to,.int .u8 r.hi.tag,.int .u32 r.hi.to],.int .i64 n] w fun e w'=>e=.returned (.bool (rightB r n)) ∧ Keeps w w':=by
 obtain ⟨f,t,b,⟨lt,la⟩,⟨ht,ha⟩⟩:=r
 obtain ⟨⟨f1,f2⟩,⟨t1,t2⟩,⟨b1,b2⟩,⟨⟨lt1,lt2⟩,la1,la2⟩,⟨ht1,ht2⟩,ha1,ha2⟩:=hr
 dsimp only at *
 by_cases hbad:(f < 1 ∨ 5 < f) ∨ (n < 0 ∨ 16 < n) ∨ b < t ∨ n ≤ b
 ·have hv:rightB ⟨f,t,b,⟨lt,la⟩,⟨ht,ha⟩⟩ n=false:=by
   unfold rightB
   rw [if_pos]
   simp only [isFormB,mayB,Bool.or_eq_true,Bool.not_eq_true',Bool.and_eq_false_iff,decide_eq_true_eq,decide_eq_false_iff_not]
   omega
  rw [hv]
  have H:=Lib.hid hbad
  clear hbad
  go_enter Tryz.func134,Tryz.ntmps134
  go_wp2_with fail
  all_goals first | (go_ret;exact ⟨rfl,by (exact kp)⟩) | (exfalso;have:=H.out;omega)
 ·have g1:1 ≤ f:=by omega
  have g2:f ≤ 5:=by omega
  have g3:0 ≤ n:=by omega
  have g4:n ≤ 16:=by omega
  have g5:t ≤ b:=by omega
  have g6:b < n:=by omega
  clear hbad
  go_enter Tryz.func134,Tryz.ntmps134
  go_wp2_with (first | (go_at_call 140;refine (refplain_calls _ _ _ _ _ _ (by omega) (by omega)).mono ?_;rintro e w1 ⟨rfl,hb⟩;have hk:Keeps w w1:=(by (exact kp));obtain ⟨hc,hf⟩:=hb.cells;obtain ⟨hcl,hfl⟩:=hk.cells;have hsz:=hb.size;(try simp only [World.size_alloc,World.size_drewN,World.size_drew,World.size_setCell] at hsz);have hsl:=hk.size;have hz0:w.heap.size < w1.heap.size:=(by omega)) | fail)
  all_goals (go_ret;refine ⟨?_,by (exact kp)⟩)
  all_goals (congr 2;rw [rightB_good f t b lt la ht ha n g1 g2 g3 g4 g5 g6 ha1])
  all_goals simp_all
  all_goals first | rfl | omega | (by_cases z:lt=ht <;> by_cases y:t < b <;> simp [z,y] <;> omega)

set_option maxRecDepth 100000 in
theorem rleads_low (mb:Nat) (f t ad l n:Int) (al:Option Addr) (len cap D:Nat) (x:Rec) (w:World) (ht1:0 ≤ t) (ht2:t ≤ 255) (hx:x.ok) (hlen:len ≤ 1048576)
  (c3:w.cell? ⟨mb,3,none⟩=some (.int .i64 n)) (c0:w.cell? ⟨mb,0,none⟩=some (.slice al len cap))
  (hat:∀ W,Keeps w W → Calls Tryz.prog 89 #[.pointer (some ⟨mb,0,none⟩),.int .u32 ad] W fun e w'=>e=.returned (.int .i64 (if D < len then (D:Int) else -1)) ∧ W=w')
  (hv:D < len → ∃ lb,al=some ⟨lb,0,none⟩ ∧ ∀ j,j < 7 → w.cell? ⟨lb,D * 8 + (1 + j),none⟩=(recVals x)[j]?) :
  Calls Tryz.prog 71 #[.pointer (some ⟨mb,0,none⟩),.int .u8 f,.agg #[.int .u8 t,.int .u32 ad],.int .i64 l] w fun e w'=>
   e=.returned (.bool (plainB f ⟨t,ad⟩ l n && (decide (ad < 2) || (decide (D < len) && x.form == f && decide (l ≤ x.top) && decide (t ≤ x.top))))) ∧ Keeps w w':=by
 have hmb:mb < w.heap.size:=lt_of_cell c0
 obtain ⟨hx1,⟨hx2,hx3⟩,hx4,hx5,hx6⟩:=hx
 have H:=Lib.hid hat
 have HV:=Lib.hid hv
 clear hat hv hx1 hx4 hx5 hx6
 cases hp:plainB f ⟨t,ad⟩ l n with
 | false=>
  go_enter Tryz.func71,Tryz.ntmps71
  go_wp2_with fail
  go_region_held3 (fun w'=>w'.cell? ⟨mb,3,none⟩=some (.int .i64 n) ∧ w'.cell? ⟨w.heap.size,0,none⟩=some (.int .u8 t) ∧ w'.cell? ⟨w.heap.size,1,none⟩=some (.int .u32 ad)) (go_keep) ((first | (go_at_call 140;refine (refplain_calls _ _ _ _ _ _ (by omega) (by omega)).mono ?_;rintro e' w1 ⟨rfl,hb⟩;have hwb:Keeps (w.alloc (.cells #[.int .u8 t,.int .u32 ad] 25)) w1:=(by (exact kp));have z0:w1.cell? ⟨w.heap.size,0,none⟩=some (.int .u8 t):=hwb.cell (by simp);have z1:w1.cell? ⟨w.heap.size,1,none⟩=some (.int .u32 ad):=hwb.cell (by simp);have hk:Keeps w w1:=(((Keeps.refl _).alloc _).trans hwb);have hsz:=hwb.size;simp only [World.size_alloc] at hsz;have d3:=hk.cell c3;have d0:=hk.cell c0)))
  all_goals (go_wp2;go_ret;exact ⟨rfl,by (exact kp)⟩)
 | true=>
  by_cases h2:ad < 2
  ·obtain ⟨q,hq⟩:∃ q:Int,∀ W,Keeps w W → Calls Tryz.prog 89 #[.pointer (some ⟨mb,0,none⟩),.int .u32 ad] W fun e w'=>e=.returned (.int .i64 q) ∧ W=w':=⟨_,H.out⟩
   clear H
   have H:=Lib.hid hq
   clear hq
   go_enter Tryz.func71,Tryz.ntmps71
   go_wp2_with fail
   go_region_held3 (fun w'=>w'.cell? ⟨mb,3,none⟩=some (.int .i64 n) ∧ w'.cell? ⟨w.heap.size,0,none⟩=some (.int .u8 t) ∧ w'.cell? ⟨w.heap.size,1,none⟩=some (.int .u32 ad)) (go_keep) ((first | (go_at_call 140;refine (refplain_calls _ _ _ _ _ _ (by omega) (by omega)).mono ?_;rintro e' w1 ⟨rfl,hb⟩;have hwb:Keeps (w.alloc (.cells #[.int .u8 t,.int .u32 ad] 25)) w1:=(by (exact kp));have z0:w1.cell? ⟨w.heap.size,0,none⟩=some (.int .u8 t):=hwb.cell (by simp);have z1:w1.cell? ⟨w.heap.size,1,none⟩=some (.int .u32 ad):=hwb.cell (by simp);have hk:Keeps w w1:=(((Keeps.refl _).alloc _).trans hwb);have hsz:=hwb.size;simp only [World.size_alloc] at hsz;have d3:=hk.cell c3;have d0:=hk.cell c0)))
   all_goals (go_wp2_with (first | (go_at_call 89;refine (H.out _ (by (exact kp))).mono ?_;rintro e' w2 ⟨rfl,rfl⟩) | fail);go_ret;exact ⟨by simp [h2],by (exact kp)⟩)
  ·by_cases hD:D < len
   ·obtain ⟨lb,rfl,hc⟩:=HV.out hD
    have hsv:=fun j hj=>(hc j hj).trans (List.getElem?_eq_getElem (show j < (recVals x).length from hj))
    have s0:=hsv 0 (by omega)
    have s1:=hsv 1 (by omega)
    have s2:=hsv 2 (by omega)
    have s3:=hsv 3 (by omega)
    have s4:=hsv 4 (by omega)
    have s5:=hsv 5 (by omega)
    have s6:=hsv 6 (by omega)
    simp [recVals] at s0 s1 s2 s3 s4 s5 s6
    clear hsv hc
    have hlb:lb < w.heap.size:=lt_of_cell s0
    simp only [if_pos hD] at H
    go_enter Tryz.func71,Tryz.ntmps71
    go_wp2_with fail
    go_region_held3 (fun w'=>w'.cell? ⟨mb,3,none⟩=some (.int .i64 n) ∧ w'.cell? ⟨w.heap.size,0,none⟩=some (.int .u8 t) ∧ w'.cell? ⟨w.heap.size,1,none⟩=some (.int .u32 ad)) (go_keep) ((first | (go_at_call 140;refine (refplain_calls _ _ _ _ _ _ (by omega) (by omega)).mono ?_;rintro e' w1 ⟨rfl,hb⟩;have hwb:Keeps (w.alloc (.cells #[.int .u8 t,.int .u32 ad] 25)) w1:=(by (exact kp));have z0:w1.cell? ⟨w.heap.size,0,none⟩=some (.int .u8 t):=hwb.cell (by simp);have z1:w1.cell? ⟨w.heap.size,1,none⟩=some (.int .u32 ad):=hwb.cell (by simp);have hk:Keeps w w1:=(((Keeps.refl _).alloc _).trans hwb);have hsz:=hwb.size;simp only [World.size_alloc] at hsz;have d3:=hk.cell c3;have d0:=hk.cell c0)))
    have u0:=hk.cell s0
    have u1:=hk.cell s1
    have u2:=hk.cell s2
    have u3:=hk.cell s3
    have u4:=hk.cell s4
    have u5:=hk.cell s5
    have u6:=hk.cell s6
    have hmb1:mb < w1.heap.size:=by omega
    have hlb1:lb < w1.heap.size:=by omega
    have hws:w.heap.size < w1.heap.size:=by omega
    have HK:=Lib.hid hk
    clear hb hwb s0 s1 s2 s3 s4 s5 s6 hk
    go_wp2_with (first | (go_at_call 89;refine (H.out _ (by have:=HK.out;(exact kp))).mono ?_;rintro e' w2 ⟨rfl,rfl⟩) | fail)
    all_goals (go_ret;have hkk:=HK.out;refine ⟨?_,by (exact kp)⟩)
    all_goals simp_all
    all_goals (try omega)
   ·simp only [if_neg hD] at H
    go_enter Tryz.func71,Tryz.ntmps71
    go_wp2_with fail
    go_region_held3 (fun w'=>w'.cell? ⟨mb,3,none⟩=some (.int .i64 n) ∧ w'.cell? ⟨w.heap.size,0,none⟩=some (.int .u8 t) ∧ w'.cell? ⟨w.heap.size,1,none⟩=some (.int .u32 ad)) (go_keep) ((first | (go_at_call 140;refine (refplain_calls _ _ _ _ _ _ (by omega) (by omega)).mono ?_;rintro e' w1 ⟨rfl,hb⟩;have hwb:Keeps (w.alloc (.cells #[.int .u8 t,.int .u32 ad] 25)) w1:=(by (exact kp));have z0:w1.cell? ⟨w.heap.size,0,none⟩=some (.int .u8 t):=hwb.cell (by simp);have z1:w1.cell? ⟨w.heap.size,1,none⟩=some (.int .u32 ad):=hwb.cell (by simp);have hk:Keeps w w1:=(((Keeps.refl _).alloc _).trans hwb);have hsz:=hwb.size;simp only [World.size_alloc] at hsz;have d3:=hk.cell c3;have d0:=hk.cell c0)))
    all_goals (go_wp2_with (first | (go_at_call 89;refine (H.out _ (by (exact kp))).mono ?_;rintro e' w2 ⟨rfl,rfl⟩) | fail);go_ret;exact ⟨by simp [h2,hD],by (exact kp)⟩)

end Go.Proofs.YtpgcbmbnognieaaGreat
