/-
  ramageref05.Value, ramageref17.Is, ramageref17.May; the rounds of ramageref17.Holds where a level is left out.
-/
import Derived.Test.YtpgcbmbnognieaaGreatPHoldsX
namespace Go.Proofs.YtpgcbmbnognieaaGreat
set_option linter.unusedSimpArgs false
set_option linter.unusedVariables false
set_option maxHeartbeats 600000
open Go.RowKit

def bitI (b:Bool):Int:=if b then 1 else 0

theorem value_calls (x k:Int) (w:World) (hx0:0 ≤ x) (hx1:x ≤ 65535) (hk0:0 ≤ k) (hk1:k ≤ 16) :
  Calls Tryz.prog 74 #[.int .i64 x,.int .i64 k] w fun e w'=>e=.returned (.int .i64 (bitI (bitB x k))) ∧ w=w':=by
 obtain ⟨n,rfl⟩:∃ n:Nat,k=(n:Int):=⟨k.toNat,by omega⟩
 have HS:=Lib.hid (size_calls n (by omega) w)
 have hp1:2 ^ n ≤ 2 ^ 16:=Nat.pow_le_pow_right (by decide) (by omega)
 have hp0:0 < 2 ^ n:=Nat.pow_pos (by decide)
 have e16:(2:Nat) ^ 16=65536:=rfl
 have hv:bitI (bitB x n)=x / ((2 ^ n:Nat):Int) % 2:=by
  unfold bitI bitB
  have e1:((2 ^ n:Nat):Int)=2 ^ (n:Int).toNat:=by push_cast;rfl
  rw [e1]
  by_cases h:x / 2 ^ (n:Int).toNat % 2=1
  ·rw [decide_eq_true h,h];rfl
  ·rw [decide_eq_false h];show (0:Int)=_;omega
 rw [hv]
 obtain ⟨p,hp⟩:∃ p,p=2 ^ n:=⟨_,rfl⟩
 rw [← hp] at HS hp1 hp0 ⊢
 rw [e16] at hp1
 clear hp hv
 have pp:(p:Int) ≠ 0:=by omega
 have g0:((p:Int) == 0)=false:=by simp;omega
 have e1:x.tdiv (p:Int)=x / (p:Int):=Int.tdiv_eq_ediv_of_nonneg hx0
 have hq0:0 ≤ x / (p:Int):=Int.ediv_nonneg hx0 (by omega)
 have hq1:x / (p:Int) ≤ x:=Int.ediv_le_self _ hx0
 have e2:(x / (p:Int)).tmod 2=x / (p:Int) % 2:=Int.tmod_eq_emod_of_nonneg hq0
 go_enter Tryz.func74,Tryz.ntmps74
 go_wp2_with (first | (go_at_call 52;refine HS.out.mono ?_;rintro e w' ⟨rfl,rfl⟩) | fail)
 go_ret
 exact ⟨by rfl,rfl⟩

theorem ris_calls (f:Int) (w:World):Calls Tryz.prog 56 #[.int .u8 f] w fun e w'=>e=.returned (.bool (isFormB f)) ∧ w=w':=by
 unfold isFormB
 by_cases h1:1 ≤ f
 ·by_cases h2:f ≤ 5
  ·rw [decide_eq_true h1,decide_eq_true h2]
   go_enter Tryz.func56,Tryz.ntmps56
   go_wp2
   go_ret
   exact ⟨rfl,rfl⟩
  ·rw [decide_eq_true h1,decide_eq_false h2]
   go_enter Tryz.func56,Tryz.ntmps56
   go_wp2
   go_ret
   exact ⟨rfl,rfl⟩
 ·rw [decide_eq_false h1]
  go_enter Tryz.func56,Tryz.ntmps56
  go_wp2
  go_ret
  exact ⟨rfl,rfl⟩

theorem rmay_calls {F:Nat → Prop} {w:World} {sb:Nat} {M:St} {L:List (Int × Rec)} (h:RefRep F w sb M L) (f:Int) (v:Edge) (l:Int) (hv:v.ok) :
  Calls Tryz.prog 14 #[.pointer (some ⟨sb,0,none⟩),.int .u8 f,.agg #[.int .u8 v.tag,.int .u32 v.to],.int .i64 l] w fun r w'=>r=.returned (.int .i64 (mayC M f v l)) ∧ Keeps w w':=by
 have hld:=fun (W:World) (hW:Keeps w W)=>ref_leads (h.keeps hW) f v l hv
 have hfc:=ris_calls f
 have c3:=h.vars
 have hsb:=h.pos
 have hsb1:sb < w.heap.size + 1:=by omega
 rcases bool_cases (isFormB f) with hb | hb
 ·have e:mayC M f v l=4:=by unfold mayC;rw [if_pos hb]
  rw [e]
  rw [hb] at hfc
  have HFC:=Lib.hid hfc
  clear h hld hfc hb e
  go_enter Tryz.func14,Tryz.ntmps14
  go_wp2_with (first | (go_at_call 56;refine (HFC.out _).mono ?_;rintro e w' ⟨rfl,rfl⟩) | fail)
  go_ret
  exact ⟨rfl,by (exact kp)⟩
 ·rw [hb] at hfc
  have HFC:=Lib.hid hfc
  clear hfc
  by_cases c1:l < 0 ∨ M.n < l
  ·have e:mayC M f v l=3:=by unfold mayC;rw [if_neg (by rw [hb];simp),if_pos c1]
   rw [e]
   clear h hld hb e
   by_cases c0:l < 0
   ·go_enter Tryz.func14,Tryz.ntmps14
    go_wp2_with (first | (go_at_call 56;refine (HFC.out _).mono ?_;rintro e w' ⟨rfl,rfl⟩) | fail)
    all_goals go_ret
    all_goals exact ⟨rfl,by (exact kp)⟩
   ·have c2:M.n < l:=by omega
    go_enter Tryz.func14,Tryz.ntmps14
    go_wp2_with (first | (go_at_call 56;refine (HFC.out _).mono ?_;rintro e w' ⟨rfl,rfl⟩) | fail)
    all_goals go_ret
    all_goals exact ⟨rfl,by (exact kp)⟩
  ·have d0:¬ l < 0:=by omega
   have d1:¬ M.n < l:=by omega
   have e:mayC M f v l=if M.leads f v l=false then 1 else 0:=by unfold mayC;rw [if_neg (by rw [hb];simp),if_neg c1]
   rw [e]
   obtain ⟨b,hb2⟩:∃ b,b=M.leads f v l:=⟨_,rfl⟩
   rw [← hb2] at hld ⊢
   have HLD:=Lib.hid hld
   clear h hld hb e c1 hb2
   cases b
   all_goals go_enter Tryz.func14,Tryz.ntmps14
   all_goals go_wp2_with (first | (go_at_call 56;refine (HFC.out _).mono ?_;rintro e w' ⟨rfl,rfl⟩) | (go_at_call 71;refine (HLD.out _ (by (exact kp))).mono ?_;rintro e w1 ⟨rfl,hk⟩) | fail)
   all_goals go_ret
   all_goals exact ⟨rfl,by (exact kp)⟩

set_option maxRecDepth 100000 in
set_option maxHeartbeats 4000000 in
theorem rh_left (sb:Nat) (f l n x:Int) (e:Edge) (b R:Bool) (w:World) (hsb:sb < w.heap.size) (hf:1 ≤ f ∧ f ≤ 5) (hz:e.to ≠ 0) (ho:e.ok) (hl0:0 ≤ l) (hln:l < n) (hn:n ≤ 16) (c3:w.cell? ⟨sb,3,none⟩=some (.int .i64 n))
  (ha:∀ W,Keeps w W → Calls Tryz.prog 89 #[.pointer (some ⟨sb,0,none⟩),.int .u32 e.to] W fun r w'=>r=.returned (.int .i64 (-1)) ∧ W=w')
  (hv:∀ W,Calls Tryz.prog 74 #[.int .i64 x,.int .i64 l] W fun r w'=>r=.returned (.int .i64 (bitI b)) ∧ W=w')
  (hi:∀ W,Keeps w W → Calls Tryz.prog 78 #[.pointer (some ⟨sb,0,none⟩),.int .u8 f,.agg #[.int .u8 e.tag,.int .u32 e.to],.int .i64 (l + 1),.int .i64 x] W fun r w'=>r=.returned (.bool R) ∧ Keeps W w') :
  Calls Tryz.prog 78 #[.pointer (some ⟨sb,0,none⟩),.int .u8 f,.agg #[.int .u8 e.tag,.int .u32 e.to],.int .i64 l,.int .i64 x] w fun r w'=>r=.returned (.bool (if zeroAt f e l && b then false else R)) ∧ Keeps w w':=by
 have t0:0 ≤ e.tag:=ho.1.1
 have t1:e.tag ≤ 255:=ho.1.2
 have hp:0 < e.to:=by have:=ho.2.1;omega
 have hsb1:sb < w.heap.size + 1:=by omega
 have hg:∀ d:Int,l < n:=fun _=>hln
 have HA:=Lib.hid ha
 have HV:=Lib.hid hv
 have HI:=Lib.hid hi
 clear ha hv hi hg
 by_cases h1:f=1
 ·subst h1
  rw [show zeroAt 1 e l=false from rfl]
  cases b
  all_goals (go_enter Tryz.func78,Tryz.ntmps78;go_wp2_with (first | (go_at_call 89;refine (HA.out _ (by (exact kp))).mono ?_;rintro e2 w2 ⟨rfl,rfl⟩) | (go_at_call 74;refine (HV.out _).mono ?_;rintro e3 w3 ⟨rfl,rfl⟩) | (go_at_call 78;refine (HI.out _ (by (exact kp))).mono ?_;rintro e4 w4 ⟨rfl,hk4⟩) | fail);all_goals first | (exfalso;omega) | (go_ret;exact ⟨rfl,by (exact kp)⟩))
 ·by_cases h2:f=2
  ·subst h2
   rw [show zeroAt 2 e l=true from rfl]
   cases b
   all_goals (go_enter Tryz.func78,Tryz.ntmps78;go_wp2_with (first | (go_at_call 89;refine (HA.out _ (by (exact kp))).mono ?_;rintro e2 w2 ⟨rfl,rfl⟩) | (go_at_call 74;refine (HV.out _).mono ?_;rintro e3 w3 ⟨rfl,rfl⟩) | (go_at_call 78;refine (HI.out _ (by (exact kp))).mono ?_;rintro e4 w4 ⟨rfl,hk4⟩) | fail);all_goals first | (exfalso;omega) | (go_ret;exact ⟨rfl,by (exact kp)⟩))
  ·by_cases h3:f=3
   ·subst h3
    rw [show zeroAt 3 e l=false from rfl]
    cases b
    all_goals (go_enter Tryz.func78,Tryz.ntmps78;go_wp2_with (first | (go_at_call 89;refine (HA.out _ (by (exact kp))).mono ?_;rintro e2 w2 ⟨rfl,rfl⟩) | (go_at_call 74;refine (HV.out _).mono ?_;rintro e3 w3 ⟨rfl,rfl⟩) | (go_at_call 78;refine (HI.out _ (by (exact kp))).mono ?_;rintro e4 w4 ⟨rfl,hk4⟩) | fail);all_goals first | (exfalso;omega) | (go_ret;exact ⟨rfl,by (exact kp)⟩))
   ·by_cases h4:f=4
    ·subst h4
     rw [show zeroAt 4 e l=true from rfl]
     cases b
     all_goals (go_enter Tryz.func78,Tryz.ntmps78;go_wp2_with (first | (go_at_call 89;refine (HA.out _ (by (exact kp))).mono ?_;rintro e2 w2 ⟨rfl,rfl⟩) | (go_at_call 74;refine (HV.out _).mono ?_;rintro e3 w3 ⟨rfl,rfl⟩) | (go_at_call 78;refine (HI.out _ (by (exact kp))).mono ?_;rintro e4 w4 ⟨rfl,hk4⟩) | fail);all_goals first | (exfalso;omega) | (go_ret;exact ⟨rfl,by (exact kp)⟩))
    ·have h5:f=5:=by omega
     subst h5
     by_cases ht:e.tag ≤ l
     ·rw [show zeroAt 5 e l=true by unfold zeroAt;rw [decide_eq_true ht];rfl]
      cases b
      all_goals (go_enter Tryz.func78,Tryz.ntmps78;go_wp2_with (first | (go_at_call 89;refine (HA.out _ (by (exact kp))).mono ?_;rintro e2 w2 ⟨rfl,rfl⟩) | (go_at_call 74;refine (HV.out _).mono ?_;rintro e3 w3 ⟨rfl,rfl⟩) | (go_at_call 78;refine (HI.out _ (by (exact kp))).mono ?_;rintro e4 w4 ⟨rfl,hk4⟩) | fail);all_goals first | (exfalso;omega) | (go_ret;exact ⟨rfl,by (exact kp)⟩))
     ·rw [show zeroAt 5 e l=false by unfold zeroAt;rw [decide_eq_false ht];rfl]
      cases b
      all_goals (go_enter Tryz.func78,Tryz.ntmps78;go_wp2_with (first | (go_at_call 89;refine (HA.out _ (by (exact kp))).mono ?_;rintro e2 w2 ⟨rfl,rfl⟩) | (go_at_call 74;refine (HV.out _).mono ?_;rintro e3 w3 ⟨rfl,rfl⟩) | (go_at_call 78;refine (HI.out _ (by (exact kp))).mono ?_;rintro e4 w4 ⟨rfl,hk4⟩) | fail);all_goals first | (exfalso;omega) | (go_ret;exact ⟨rfl,by (exact kp)⟩))

set_option maxRecDepth 100000 in
set_option maxHeartbeats 4000000 in
theorem rh_above (sb:Nat) (f l n x:Int) (e:Edge) (b R:Bool) (w:World) (hsb:sb < w.heap.size) (hf:1 ≤ f ∧ f ≤ 5) (hz:e.to ≠ 0) (ho:e.ok) (hl0:0 ≤ l) (hln:l < n) (hn:n ≤ 16) (c3:w.cell? ⟨sb,3,none⟩=some (.int .i64 n))
  (top:Int) (lb D len cap:Nat) (hx0:0 ≤ top) (hx1:top ≤ 255) (hlt:l < top) (c0:w.cell? ⟨sb,0,none⟩=some (.slice (some ⟨lb,0,none⟩) len cap)) (hD:D < len) (hlen:len ≤ 1048576) (s1:w.cell? ⟨lb,D * 8 + 2,none⟩=some (.int .u8 top))
  (ha:∀ W,Keeps w W → Calls Tryz.prog 89 #[.pointer (some ⟨sb,0,none⟩),.int .u32 e.to] W fun r w'=>r=.returned (.int .i64 (D:Int)) ∧ W=w')
  (hv:∀ W,Calls Tryz.prog 74 #[.int .i64 x,.int .i64 l] W fun r w'=>r=.returned (.int .i64 (bitI b)) ∧ W=w')
  (hi:∀ W,Keeps w W → Calls Tryz.prog 78 #[.pointer (some ⟨sb,0,none⟩),.int .u8 f,.agg #[.int .u8 e.tag,.int .u32 e.to],.int .i64 (l + 1),.int .i64 x] W fun r w'=>r=.returned (.bool R) ∧ Keeps W w') :
  Calls Tryz.prog 78 #[.pointer (some ⟨sb,0,none⟩),.int .u8 f,.agg #[.int .u8 e.tag,.int .u32 e.to],.int .i64 l,.int .i64 x] w fun r w'=>r=.returned (.bool (if zeroAt f e l && b then false else R)) ∧ Keeps w w':=by
 have t0:0 ≤ e.tag:=ho.1.1
 have t1:e.tag ≤ 255:=ho.1.2
 have hlb:lb < w.heap.size:=lt_of_cell s1
 have hlb1:lb < w.heap.size + 1:=by omega
 have hp:0 < e.to:=by have:=ho.2.1;omega
 have hsb1:sb < w.heap.size + 1:=by omega
 have hg:∀ d:Int,l < n:=fun _=>hln
 have HA:=Lib.hid ha
 have HV:=Lib.hid hv
 have HI:=Lib.hid hi
 clear ha hv hi hg
 by_cases h1:f=1
 ·subst h1
  rw [show zeroAt 1 e l=false from rfl]
  cases b
  all_goals (go_enter Tryz.func78,Tryz.ntmps78;go_wp2_with (first | (go_at_call 89;refine (HA.out _ (by (exact kp))).mono ?_;rintro e2 w2 ⟨rfl,rfl⟩) | (go_at_call 74;refine (HV.out _).mono ?_;rintro e3 w3 ⟨rfl,rfl⟩) | (go_at_call 78;refine (HI.out _ (by (exact kp))).mono ?_;rintro e4 w4 ⟨rfl,hk4⟩) | fail);all_goals first | (exfalso;omega) | (go_ret;exact ⟨rfl,by (exact kp)⟩))
 ·by_cases h2:f=2
  ·subst h2
   rw [show zeroAt 2 e l=true from rfl]
   cases b
   all_goals (go_enter Tryz.func78,Tryz.ntmps78;go_wp2_with (first | (go_at_call 89;refine (HA.out _ (by (exact kp))).mono ?_;rintro e2 w2 ⟨rfl,rfl⟩) | (go_at_call 74;refine (HV.out _).mono ?_;rintro e3 w3 ⟨rfl,rfl⟩) | (go_at_call 78;refine (HI.out _ (by (exact kp))).mono ?_;rintro e4 w4 ⟨rfl,hk4⟩) | fail);all_goals first | (exfalso;omega) | (go_ret;exact ⟨rfl,by (exact kp)⟩))
  ·by_cases h3:f=3
   ·subst h3
    rw [show zeroAt 3 e l=false from rfl]
    cases b
    all_goals (go_enter Tryz.func78,Tryz.ntmps78;go_wp2_with (first | (go_at_call 89;refine (HA.out _ (by (exact kp))).mono ?_;rintro e2 w2 ⟨rfl,rfl⟩) | (go_at_call 74;refine (HV.out _).mono ?_;rintro e3 w3 ⟨rfl,rfl⟩) | (go_at_call 78;refine (HI.out _ (by (exact kp))).mono ?_;rintro e4 w4 ⟨rfl,hk4⟩) | fail);all_goals first | (exfalso;omega) | (go_ret;exact ⟨rfl,by (exact kp)⟩))
   ·by_cases h4:f=4
    ·subst h4
     rw [show zeroAt 4 e l=true from rfl]
     cases b
     all_goals (go_enter Tryz.func78,Tryz.ntmps78;go_wp2_with (first | (go_at_call 89;refine (HA.out _ (by (exact kp))).mono ?_;rintro e2 w2 ⟨rfl,rfl⟩) | (go_at_call 74;refine (HV.out _).mono ?_;rintro e3 w3 ⟨rfl,rfl⟩) | (go_at_call 78;refine (HI.out _ (by (exact kp))).mono ?_;rintro e4 w4 ⟨rfl,hk4⟩) | fail);all_goals first | (exfalso;omega) | (go_ret;exact ⟨rfl,by (exact kp)⟩))
    ·have h5:f=5:=by omega
     subst h5
     by_cases ht:e.tag ≤ l
     ·rw [show zeroAt 5 e l=true by unfold zeroAt;rw [decide_eq_true ht];rfl]
      cases b
      all_goals (go_enter Tryz.func78,Tryz.ntmps78;go_wp2_with (first | (go_at_call 89;refine (HA.out _ (by (exact kp))).mono ?_;rintro e2 w2 ⟨rfl,rfl⟩) | (go_at_call 74;refine (HV.out _).mono ?_;rintro e3 w3 ⟨rfl,rfl⟩) | (go_at_call 78;refine (HI.out _ (by (exact kp))).mono ?_;rintro e4 w4 ⟨rfl,hk4⟩) | fail);all_goals first | (exfalso;omega) | (go_ret;exact ⟨rfl,by (exact kp)⟩))
     ·rw [show zeroAt 5 e l=false by unfold zeroAt;rw [decide_eq_false ht];rfl]
      cases b
      all_goals (go_enter Tryz.func78,Tryz.ntmps78;go_wp2_with (first | (go_at_call 89;refine (HA.out _ (by (exact kp))).mono ?_;rintro e2 w2 ⟨rfl,rfl⟩) | (go_at_call 74;refine (HV.out _).mono ?_;rintro e3 w3 ⟨rfl,rfl⟩) | (go_at_call 78;refine (HI.out _ (by (exact kp))).mono ?_;rintro e4 w4 ⟨rfl,hk4⟩) | fail);all_goals first | (exfalso;omega) | (go_ret;exact ⟨rfl,by (exact kp)⟩))

set_option maxRecDepth 100000 in
set_option maxHeartbeats 4000000 in
theorem rh_node (sb:Nat) (f n x:Int) (e:Edge) (r:Rec) (R:Bool) (w:World) (hsb:sb < w.heap.size) (hff:r.form=f) (hz:e.to ≠ 0) (ho:e.ok) (hro:r.ok) (htb:r.top ≤ r.bot) (hbn:r.bot < n) (hn:n ≤ 16) (c3:w.cell? ⟨sb,3,none⟩=some (.int .i64 n))
  (lb D len cap:Nat) (c0:w.cell? ⟨sb,0,none⟩=some (.slice (some ⟨lb,0,none⟩) len cap)) (hD:D < len) (hlen:len ≤ 1048576)
  (s0:w.cell? ⟨lb,D * 8 + 1,none⟩=some (.int .u8 r.form)) (s1:w.cell? ⟨lb,D * 8 + 2,none⟩=some (.int .u8 r.top)) (s2:w.cell? ⟨lb,D * 8 + 3,none⟩=some (.int .u8 r.bot)) (s3:w.cell? ⟨lb,D * 8 + 4,none⟩=some (.int .u8 r.lo.tag)) (s4:w.cell? ⟨lb,D * 8 + 5,none⟩=some (.int .u32 r.lo.to)) (s5:w.cell? ⟨lb,D * 8 + 6,none⟩=some (.int .u8 r.hi.tag)) (s6:w.cell? ⟨lb,D * 8 + 7,none⟩=some (.int .u32 r.hi.to))
  (ha:∀ W,Keeps w W → Calls Tryz.prog 89 #[.pointer (some ⟨sb,0,none⟩),.int .u32 e.to] W fun r w'=>r=.returned (.int .i64 (D:Int)) ∧ W=w')
  (hv:∀ W k,0 ≤ k → k ≤ 16 → Calls Tryz.prog 74 #[.int .i64 x,.int .i64 k] W fun r w'=>r=.returned (.int .i64 (bitI (bitB x k))) ∧ W=w')
  (hi:∀ W,Keeps w W → Calls Tryz.prog 78 #[.pointer (some ⟨sb,0,none⟩),.int .u8 f,.agg #[.int .u8 (sideE x r).tag,.int .u32 (sideE x r).to],.int .i64 (r.bot + 1),.int .i64 x] W fun r w'=>r=.returned (.bool R) ∧ Keeps W w') :
  Calls Tryz.prog 78 #[.pointer (some ⟨sb,0,none⟩),.int .u8 f,.agg #[.int .u8 e.tag,.int .u32 e.to],.int .i64 r.top,.int .i64 x] w fun r w'=>r=.returned (.bool R) ∧ Keeps w w':=by
 have t0:0 ≤ e.tag:=ho.1.1
 have t1:e.tag ≤ 255:=ho.1.2
 have r0:0 ≤ r.top:=hro.top.1
 have r1:r.top ≤ 255:=hro.top.2
 have r2:0 ≤ r.bot:=hro.bot.1
 have r3:r.bot ≤ 255:=hro.bot.2
 have hlb:lb < w.heap.size:=lt_of_cell s1
 have hlb1:lb < w.heap.size + 1:=by omega
 have hp:0 < e.to:=by have:=ho.2.1;omega
 have hsb1:sb < w.heap.size + 1:=by omega
 have hlt:r.top < n:=by omega
 obtain ⟨bt,hbt⟩:∃ bt,bt=bitI (bitB x r.top):=⟨_,rfl⟩
 have hvt:=fun W=>hv W r.top r0 (by omega)
 rw [← hbt] at hvt
 have HVT:=Lib.hid hvt
 have HA:=Lib.hid ha
 have HV:=Lib.hid hv
 have HI:=Lib.hid hi
 have HFF:=Lib.hid hff
 obtain ⟨N,hN⟩:∃ N,N=(r.bot + 1 - r.top).toNat:=⟨_,rfl⟩
 have HN:=Lib.hid hN
 clear ha hv hi hbt hvt hff hN ho hro
 go_enter Tryz.func78,Tryz.ntmps78
 go_wp2_with (first | (go_at_call 89;refine (HA.out _ (by (exact kp))).mono ?_;rintro e2 w2 ⟨rfl,rfl⟩) | (go_at_call 74;refine (HVT.out _).mono ?_;rintro e3 w3 ⟨rfl,rfl⟩) | fail)
 go_loopg [15,16] N (fun gk s15 s16 wr=>∃ (sv:Bool) (k:Int),s15=.bool sv ∧ s16=.int .i64 k ∧ r.top ≤ k ∧ k ≤ r.bot + 1 ∧ gk=(r.bot + 1 - k).toNat ∧ (sv || !clearN x k gk)=!clearN x r.top N ∧ (wr.cell? ⟨(w.heap.size + 1),0,none⟩=some (.int .u8 r.form) ∧ wr.cell? ⟨(w.heap.size + 1),1,none⟩=some (.int .u8 r.top) ∧ wr.cell? ⟨(w.heap.size + 1),2,none⟩=some (.int .u8 r.bot) ∧ wr.cell? ⟨(w.heap.size + 1),3,none⟩=some (.int .u8 r.lo.tag) ∧ wr.cell? ⟨(w.heap.size + 1),4,none⟩=some (.int .u32 r.lo.to) ∧ wr.cell? ⟨(w.heap.size + 1),5,none⟩=some (.int .u8 r.hi.tag) ∧ wr.cell? ⟨(w.heap.size + 1),6,none⟩=some (.int .u32 r.hi.to)) ∧ Keeps w wr)
 case atStart=>exact ⟨false,r.top,rfl,rfl,by omega,by omega,HN.out,rfl,⟨by simp [go_sem],by simp [go_sem],by simp [go_sem],by simp [go_sem],by simp [go_sem],by simp [go_sem],by simp [go_sem]⟩,by (exact kp)⟩
 case round=>
  obtain ⟨sv,k,rfl,rfl,k0,k1,hgk,hcl,⟨b0,b1,b2,b3,b4,b5,b6⟩,hk⟩:=hrel
  have HC:=Lib.hid hcl
  have HG:=Lib.hid hgk
  have HB7:=Lib.hid (And.intro b0 (And.intro b1 (And.intro b2 (And.intro b3 (And.intro b4 (And.intro b5 b6))))))
  clear hcl hgk
  by_cases hle:k ≤ r.bot
  ·obtain ⟨g,rfl⟩:∃ g,gk=g + 1:=⟨gk - 1,by have:=HG.out;omega⟩
   have hg2:g=(r.bot + 1 - (k + 1)).toNat:=by have:=HG.out;omega
   have HG2:=Lib.hid hg2
   have hcs:clearN x k (g + 1)=(!bitB x k && clearN x (k + 1) g):=rfl
   have HCS:=Lib.hid hcs
   clear hg2 hcs
   cases sv
   ·have hvk:=fun W=>HV.out W k (by omega) (by omega)
    rcases bool_cases (bitB x k) with hbit | hbit
    ·rw [hbit] at hvk
     have HVK:Hid (∀ W,Calls Tryz.prog 74 #[.int .i64 x,.int .i64 k] W fun r w'=>r=.returned (.int .i64 0) ∧ W=w'):=Lib.hid hvk
     have HBIT:=Lib.hid hbit
     clear hbit hvk
     go_wp2_with (first | (go_at_call 74;refine (HVK.out _).mono ?_;rintro e3 w3 ⟨rfl,rfl⟩) | fail)
     go_roundg g
     case rel=>exact ⟨false,k + 1,rfl,rfl,by omega,by omega,HG2.out,by rw [← HC.out,HCS.out,HBIT.out];rfl,HB7.out,hk⟩
     case measure=>omega
    ·rw [hbit] at hvk
     have HVK:Hid (∀ W,Calls Tryz.prog 74 #[.int .i64 x,.int .i64 k] W fun r w'=>r=.returned (.int .i64 1) ∧ W=w'):=Lib.hid hvk
     have HBIT:=Lib.hid hbit
     clear hbit hvk
     go_wp2_with (first | (go_at_call 74;refine (HVK.out _).mono ?_;rintro e3 w3 ⟨rfl,rfl⟩) | fail)
     go_roundg g
     case rel=>exact ⟨true,k + 1,rfl,rfl,by omega,by omega,HG2.out,by rw [← HC.out,HCS.out,HBIT.out];rfl,HB7.out,hk⟩
     case measure=>omega
   ·go_wp2_with fail
    go_roundg g
    case rel=>exact ⟨true,k + 1,rfl,rfl,by omega,by omega,HG2.out,by rw [← HC.out];rfl,HB7.out,hk⟩
    case measure=>omega
  ·have hg0:gk=0:=by have:=HG.out;omega
   have hsv:sv=!clearN x r.top (r.bot + 1 - r.top).toNat:=by rw [← HN.out,← HC.out,hg0];cases sv <;> rfl
   have HSV:=Lib.hid hsv
   clear hg0 hsv
   by_cases h3:f=3
   ·have hse:sideE x r=if sv then r.hi else r.lo:=by unfold sideE someB;rw [if_pos (HFF.out.trans h3),← HSV.out]
    have HSE:=Lib.hid hse
    subst h3
    clear hse
    cases sv
    ·have HIL:Hid (∀ W,Keeps w W → Calls Tryz.prog 78 #[.pointer (some ⟨sb,0,none⟩),.int .u8 3,.agg #[.int .u8 r.lo.tag,.int .u32 r.lo.to],.int .i64 (r.bot + 1),.int .i64 x] W fun r w'=>r=.returned (.bool R) ∧ Keeps W w'):=Lib.hid (fun W hW=>by have:=HI.out W hW;rw [HSE.out] at this;exact this)
     go_wp2_with (first | (go_at_call 78;refine (HIL.out _ (by (exact kp))).mono ?_;rintro e4 w4 ⟨rfl,hk4⟩) | fail)
     go_ret
     exact ⟨rfl,by (exact kp)⟩
    ·have HIH:Hid (∀ W,Keeps w W → Calls Tryz.prog 78 #[.pointer (some ⟨sb,0,none⟩),.int .u8 3,.agg #[.int .u8 r.hi.tag,.int .u32 r.hi.to],.int .i64 (r.bot + 1),.int .i64 x] W fun r w'=>r=.returned (.bool R) ∧ Keeps W w'):=Lib.hid (fun W hW=>by have:=HI.out W hW;rw [HSE.out] at this;exact this)
     go_wp2_with (first | (go_at_call 78;refine (HIH.out _ (by (exact kp))).mono ?_;rintro e4 w4 ⟨rfl,hk4⟩) | fail)
     go_ret
     exact ⟨rfl,by (exact kp)⟩
   ·have g3:(f != 3)=true:=by simp [h3]
    have hvk:=fun W=>HV.out W r.bot r2 (by omega)
    obtain ⟨bb,hbb⟩:∃ bb,bb=bitB x r.bot:=⟨_,rfl⟩
    have hse:sideE x r=if bb then r.hi else r.lo:=by unfold sideE someB;rw [if_neg (fun hh=>h3 (HFF.out.symm.trans hh)),← hbb]
    have HSE:=Lib.hid hse
    rw [← hbb] at hvk
    clear hse hbb
    cases bb
    ·have HVK:Hid (∀ W,Calls Tryz.prog 74 #[.int .i64 x,.int .i64 r.bot] W fun r w'=>r=.returned (.int .i64 0) ∧ W=w'):=Lib.hid hvk
     have HIL:Hid (∀ W,Keeps w W → Calls Tryz.prog 78 #[.pointer (some ⟨sb,0,none⟩),.int .u8 f,.agg #[.int .u8 r.lo.tag,.int .u32 r.lo.to],.int .i64 (r.bot + 1),.int .i64 x] W fun r w'=>r=.returned (.bool R) ∧ Keeps W w'):=Lib.hid (fun W hW=>by have:=HI.out W hW;rw [HSE.out] at this;exact this)
     clear hvk
     go_wp2_with (first | (go_at_call 74;refine (HVK.out _).mono ?_;rintro e3 w3 ⟨rfl,rfl⟩) | (go_at_call 78;refine (HIL.out _ (by (exact kp))).mono ?_;rintro e4 w4 ⟨rfl,hk4⟩) | fail)
     go_ret
     exact ⟨rfl,by (exact kp)⟩
    ·have HVK:Hid (∀ W,Calls Tryz.prog 74 #[.int .i64 x,.int .i64 r.bot] W fun r w'=>r=.returned (.int .i64 1) ∧ W=w'):=Lib.hid hvk
     have HIH:Hid (∀ W,Keeps w W → Calls Tryz.prog 78 #[.pointer (some ⟨sb,0,none⟩),.int .u8 f,.agg #[.int .u8 r.hi.tag,.int .u32 r.hi.to],.int .i64 (r.bot + 1),.int .i64 x] W fun r w'=>r=.returned (.bool R) ∧ Keeps W w'):=Lib.hid (fun W hW=>by have:=HI.out W hW;rw [HSE.out] at this;exact this)
     clear hvk
     go_wp2_with (first | (go_at_call 74;refine (HVK.out _).mono ?_;rintro e3 w3 ⟨rfl,rfl⟩) | (go_at_call 78;refine (HIH.out _ (by (exact kp))).mono ?_;rintro e4 w4 ⟨rfl,hk4⟩) | fail)
     go_ret
     exact ⟨rfl,by (exact kp)⟩

set_option maxRecDepth 100000 in
theorem rh_zero (sb:Nat) (f l x i:Int) (e:Edge) (w:World) (hz:e.to=0)
  (ha:∀ W,Keeps w W → Calls Tryz.prog 89 #[.pointer (some ⟨sb,0,none⟩),.int .u32 e.to] W fun r w'=>r=.returned (.int .i64 i) ∧ W=w') :
  Calls Tryz.prog 78 #[.pointer (some ⟨sb,0,none⟩),.int .u8 f,.agg #[.int .u8 e.tag,.int .u32 e.to],.int .i64 l,.int .i64 x] w fun r w'=>r=.returned (.bool false) ∧ Keeps w w':=by
 obtain ⟨tg,a⟩:=e
 dsimp only at hz ha ⊢
 subst hz
 have HA:=Lib.hid ha
 clear ha
 go_enter Tryz.func78,Tryz.ntmps78
 go_wp2_with (first | (go_at_call 89;refine (HA.out _ (by (exact kp))).mono ?_;rintro e2 w2 ⟨rfl,rfl⟩) | fail)
 go_ret
 exact ⟨rfl,by (exact kp)⟩

set_option maxRecDepth 100000 in
theorem rh_end (sb:Nat) (f l n x:Int) (e:Edge) (w:World) (hsb:sb < w.heap.size) (hz:e.to ≠ 0) (ho:e.ok) (hl:n ≤ l) (c3:w.cell? ⟨sb,3,none⟩=some (.int .i64 n))
  (ha:∀ W,Keeps w W → Calls Tryz.prog 89 #[.pointer (some ⟨sb,0,none⟩),.int .u32 e.to] W fun r w'=>r=.returned (.int .i64 (-1)) ∧ W=w') :
  Calls Tryz.prog 78 #[.pointer (some ⟨sb,0,none⟩),.int .u8 f,.agg #[.int .u8 e.tag,.int .u32 e.to],.int .i64 l,.int .i64 x] w fun r w'=>r=.returned (.bool true) ∧ Keeps w w':=by
 have hsb1:sb < w.heap.size + 1:=by omega
 have HA:=Lib.hid ha
 have hp:0 < e.to:=by have:=ho.2.1;omega
 clear ha
 go_enter Tryz.func78,Tryz.ntmps78
 go_wp2_with (first | (go_at_call 89;refine (HA.out _ (by (exact kp))).mono ?_;rintro e2 w2 ⟨rfl,rfl⟩) | fail)
 all_goals first | (exfalso;omega) | (go_ret;exact ⟨rfl,by (exact kp)⟩)

theorem rholds_calls {F:Nat → Prop} {w:World} {sb:Nat} {M:St} {L:List (Int × Rec)} (h:RefRep F w sb M L) (f x:Int) (hf:1 ≤ f ∧ f ≤ 5) (hx0:0 ≤ x) (hx1:x ≤ 65535) :
  ∀ (K:Nat) (l:Int) (e:Edge) (W:World),Keeps w W → e.ok → 0 ≤ l → l ≤ M.n → M.n - l ≤ (K:Int) → (∀ r,look M.cs e.to=some r → r.form=f ∧ l ≤ r.top) →
   Calls Tryz.prog 78 #[.pointer (some ⟨sb,0,none⟩),.int .u8 f,.agg #[.int .u8 e.tag,.int .u32 e.to],.int .i64 l,.int .i64 x] W fun r w'=>r=.returned (.bool (hS M f x K l e)) ∧ Keeps W w':=by
 have n16:=h.wf.n16
 have zero:∀ (K:Nat) (l:Int) (e:Edge) (W:World),Keeps w W → e.to=0 → Calls Tryz.prog 78 #[.pointer (some ⟨sb,0,none⟩),.int .u8 f,.agg #[.int .u8 e.tag,.int .u32 e.to],.int .i64 l,.int .i64 x] W fun r w'=>r=.returned (.bool (hS M f x K l e)) ∧ Keeps W w':=by
  intro K l e W hW hz
  have hh:hS M f x K l e=false:=by
   cases K with
   | zero=>exact decide_eq_false (fun hh=>hh hz)
   | succ K=>show (if e.to=0 then false else _)=false;rw [if_pos hz]
  rw [hh]
  exact rh_zero sb f l x _ e W hz (fun W2 h2=>ref_at (h.keeps (hW.trans h2)) e.to)
 have stop:∀ (K:Nat) (l:Int) (e:Edge) (W:World),Keeps w W → e.to ≠ 0 → e.ok → M.n ≤ l → (∀ r,look M.cs e.to=some r → r.form=f ∧ l ≤ r.top) → Calls Tryz.prog 78 #[.pointer (some ⟨sb,0,none⟩),.int .u8 f,.agg #[.int .u8 e.tag,.int .u32 e.to],.int .i64 l,.int .i64 x] W fun r w'=>r=.returned (.bool (hS M f x K l e)) ∧ Keeps W w':=by
  intro K l e W hW hz ho hl hr
  have hh:hS M f x K l e=true:=by
   cases K with
   | zero=>exact decide_eq_true hz
   | succ K=>show (if e.to=0 then false else if M.n ≤ l then true else _)=true;rw [if_neg hz,if_pos hl]
  rw [hh]
  have hW2:=h.keeps hW
  refine rh_end sb f l M.n x e W hW2.pos hz ho hl hW2.vars (fun W2 h2=>?_)
  have hat:=ref_at (hW2.keeps h2) e.to
  rcases atI_look h e.to with ⟨r,hx,_⟩ | ⟨_,_,hq⟩
  ·have:=(hr r hx).2
   have:=(h.wf.goodRec hx).tb
   have:=(h.wf.goodRec hx).bn
   omega
  ·rw [hq] at hat
   exact hat
 intro K
 induction K with
 | zero=>
  intro l e W hW ho hl0 hl1 hK hr
  by_cases hz:e.to=0
  ·exact zero 0 l e W hW hz
  ·exact stop 0 l e W hW hz ho (by omega) hr
 | succ K ih=>
  intro l e W hW ho hl0 hl1 hK hr
  by_cases hz:e.to=0
  ·exact zero (K + 1) l e W hW hz
  ·by_cases hl:M.n ≤ l
   ·exact stop (K + 1) l e W hW hz ho hl hr
   ·have hW2:=h.keeps hW
    have hat:=fun (W2:World) (h2:Keeps W W2)=>ref_at (hW2.keeps h2) e.to
    have hv:=fun (W2:World) (k:Int) (k0:0 ≤ k) (k1:k ≤ 16)=>value_calls x k W2 hx0 hx1 k0 k1
    rcases atI_look hW2 e.to with ⟨r,hk,D,hLD,_,hDl,hq⟩ | ⟨hk,_,hq⟩
    ·obtain ⟨lb,cap,q0,ql,qm,q1,q2,q3,q4,q5,q6,q7⟩:=hW2.node hLD
     obtain ⟨hfr,hlt⟩:=hr r hk
     have hok:r.ok:=h.fit _ (List.mem_of_getElem? hLD)
     have gr:=h.wf.goodRec hk
     rw [hq] at hat
     by_cases hlt2:l < r.top
     ·have hh:hS M f x (K + 1) l e=(if zeroAt f e l && bitB x l then false else hS M f x K (l + 1) e):=by
       show (if e.to=0 then false else if M.n ≤ l then true else match look M.cs e.to with | none=>_ | some r=>_)=_
       rw [if_neg hz,if_neg hl,hk]
       show (if l < r.top then _ else _)=_
       rw [if_pos hlt2]
      rw [hh]
      exact rh_above sb f l M.n x e _ _ W hW2.pos hf hz ho hl0 (by omega) n16 hW2.vars r.top lb D L.length cap hok.top.1 hok.top.2 hlt2 q0 ql qm q2 hat (fun W2=>hv W2 l hl0 (by omega)) (fun W2 h2=>ih (l + 1) e W2 (hW.trans h2) ho (by omega) (by omega) (by push_cast at hK;omega) (fun r2 hr2=>by rw [hk] at hr2;cases hr2;exact ⟨hfr,by omega⟩))
     ·have e1:l=r.top:=by omega
      have hh:hS M f x (K + 1) l e=hS M f x K (r.bot + 1) (sideE x r):=by
       show (if e.to=0 then false else if M.n ≤ l then true else match look M.cs e.to with | none=>_ | some r=>_)=_
       rw [if_neg hz,if_neg hl,hk]
       show (if l < r.top then _ else _)=_
       rw [if_neg hlt2]
      rw [hh,e1]
      have tb:=gr.tb
      have bn:=gr.bn
      have hsl:=side_leads (x:=x) h.wf hk
      rw [hfr] at hsl
      exact rh_node sb f M.n x e r _ W hW2.pos hfr hz ho hok tb bn n16 hW2.vars lb D L.length cap q0 ql qm q1 q2 q3 q4 q5 q6 q7 hat hv (fun W2 h2=>ih (r.bot + 1) (sideE x r) W2 (hW.trans h2) (by unfold sideE;split;exact hok.hi;exact hok.lo) (by have:=hok.bot.1;omega) (by omega) (by push_cast at hK;omega) (fun r2 hr2=>by obtain ⟨a,b,_⟩:=leads_some hsl hr2;exact ⟨a,b⟩))
    ·rw [hq] at hat
     have hh:hS M f x (K + 1) l e=(if zeroAt f e l && bitB x l then false else hS M f x K (l + 1) e):=by
      show (if e.to=0 then false else if M.n ≤ l then true else match look M.cs e.to with | none=>_ | some r=>_)=_
      rw [if_neg hz,if_neg hl,hk]
     rw [hh]
     exact rh_left sb f l M.n x e _ _ W hW2.pos hf hz ho hl0 (by omega) n16 hW2.vars hat (fun W2=>hv W2 l hl0 (by omega)) (fun W2 h2=>ih (l + 1) e W2 (hW.trans h2) ho (by omega) (by omega) (by push_cast at hK;omega) (fun r2 hr2=>by rw [hk] at hr2;cases hr2))

end Go.Proofs.YtpgcbmbnognieaaGreat
