/-
  What an assignment has at levels: Value, clear, free, side; may.
-/
import Derived.Test.YtpgcbmbnognieaaGreatPCube
import Derived.Test.YtpgcbmbnognieaaGreatPHPlainA
namespace Go.Proofs.YtpgcbmbnognieaaGreat
set_option linter.unusedSimpArgs false
set_option linter.unusedVariables false
set_option maxHeartbeats 600000
open Go.RowKit

def bitB (x k:Int):Bool:=decide (x / 2 ^ k.toNat % 2=1)

def clearN (x a:Int):Nat → Bool
 | 0=>true
 | n + 1=>!bitB x a && clearN x (a + 1) n

def freeI (f:Int) (e:Edge) (l top:Int):Int:=if f=1 ∨ f=3 then top else if f=5 then e.tag else l

def someB (x:Int) (r:Rec):Bool:=if r.form=3 then !clearN x r.top (r.bot + 1 - r.top).toNat else bitB x r.bot

def sideE (x:Int) (r:Rec):Edge:=if someB x r then r.hi else r.lo

def zeroAt (f:Int) (e:Edge) (l:Int):Bool:=decide (f=2) || decide (f=4) || (decide (f=5) && decide (e.tag ≤ l))

def hS (M:St) (f x:Int):Nat → Int → Edge → Bool
 | 0,_,e=>decide (e.to ≠ 0)
 | k + 1,l,e=>if e.to=0 then false else if M.n ≤ l then true else match look M.cs e.to with
  | none=>if zeroAt f e l && bitB x l then false else hS M f x k (l + 1) e
  | some r=>if l < r.top then (if zeroAt f e l && bitB x l then false else hS M f x k (l + 1) e) else hS M f x k (r.bot + 1) (sideE x r)

def mayC (M:St) (f:Int) (e:Edge) (l:Int):Int:=if isFormB f=false then 4 else if l < 0 ∨ M.n < l then 3 else if M.leads f e l=false then 1 else 0

theorem mayC_range (M:St) (f:Int) (e:Edge) (l:Int):0 ≤ mayC M f e l ∧ mayC M f e l ≤ 4:=by
 unfold mayC
 split
 ·decide
 ·split
  ·decide
  ·split <;> decide

theorem side_leads {M:St} (h:M.wf) {id x:Int} {r:Rec} (hl:look M.cs id=some r):M.leads r.form (sideE x r) (r.bot + 1)=true:=by
 have g:=h.goodRec hl
 unfold sideE
 split
 ·exact g.hi
 ·exact g.lo

theorem may_calls' {F:Nat → Prop} {w:World} {sb:Nat} {M:St} (h:StoreRep F w sb M) (f:Int) (v:Edge) (l:Int) (hv:v.ok) :
  Calls Tryz.prog 113 #[.pointer (some ⟨sb,0,none⟩),.int .u8 f,.agg #[.int .u8 v.tag,.int .u32 v.to],.int .i64 l] w fun r w'=>r=.returned (.int .u8 (mayC M f v l)) ∧ Keeps w w':=by
 have HV:=Lib.hid (fun (W:World) (hW:Keeps w W)=>store_vars (h.keeps hW))
 have hld:=fun (W:World) (hW:Keeps w W)=>store_leads (h.keeps hW) f v l hv
 have hfc:=isForm_calls f
 rcases bool_cases (isFormB f) with hb | hb
 ·have e:mayC M f v l=4:=by unfold mayC;rw [if_pos hb]
  rw [e]
  rw [hb] at hfc
  have HFC:=Lib.hid hfc
  clear h hld hfc hb e
  go_enter Tryz.func113,Tryz.ntmps113
  go_wp2_with (first | (go_at_call 153;refine (HFC.out _).mono ?_;rintro e w' ⟨rfl,rfl⟩) | fail)
  go_ret
  exact ⟨rfl,by (exact kp)⟩
 ·rw [hb] at hfc
  have HFC:=Lib.hid hfc
  clear hfc
  by_cases c1:l < 0 ∨ M.n < l
  ·have e:mayC M f v l=3:=by unfold mayC;rw [if_neg (by rw [hb];simp),if_pos c1]
   rw [e]
   clear h hld hb e
   by_cases c0:l < 0
   ·go_enter Tryz.func113,Tryz.ntmps113
    go_wp2_with (first | (go_at_call 153;refine (HFC.out _).mono ?_;rintro e w' ⟨rfl,rfl⟩) | (go_at_call 67;refine (HV.out _ (by (exact kp))).mono ?_;rintro e w' ⟨rfl,rfl⟩) | fail)
    all_goals go_ret
    all_goals exact ⟨rfl,by (exact kp)⟩
   ·have c2:M.n < l:=by omega
    go_enter Tryz.func113,Tryz.ntmps113
    go_wp2_with (first | (go_at_call 153;refine (HFC.out _).mono ?_;rintro e w' ⟨rfl,rfl⟩) | (go_at_call 67;refine (HV.out _ (by (exact kp))).mono ?_;rintro e w' ⟨rfl,rfl⟩) | fail)
    all_goals go_ret
    all_goals exact ⟨rfl,by (exact kp)⟩
  ·have d0:¬ l < 0:=by omega
   have d1:¬ M.n < l:=by omega
   rcases bool_cases (M.leads f v l) with hb2 | hb2
   ·have e:mayC M f v l=1:=by unfold mayC;rw [if_neg (by rw [hb];simp),if_neg c1,if_pos hb2]
    rw [e]
    rw [hb2] at hld
    have HLD:=Lib.hid hld
    clear h hld hb e c1 hb2
    go_enter Tryz.func113,Tryz.ntmps113
    go_wp2_with (first | (go_at_call 153;refine (HFC.out _).mono ?_;rintro e w' ⟨rfl,rfl⟩) | (go_at_call 67;refine (HV.out _ (by (exact kp))).mono ?_;rintro e w' ⟨rfl,rfl⟩) | (go_at_call 130;refine (HLD.out _ (by (exact kp))).mono ?_;rintro e w1 ⟨rfl,hk⟩) | fail)
    all_goals go_ret
    all_goals exact ⟨rfl,by (exact kp)⟩
   ·have e:mayC M f v l=0:=by unfold mayC;rw [if_neg (by rw [hb];simp),if_neg c1,if_neg (by rw [hb2];simp)]
    rw [e]
    rw [hb2] at hld
    have HLD:=Lib.hid hld
    clear h hld hb e c1 hb2
    go_enter Tryz.func113,Tryz.ntmps113
    go_wp2_with (first | (go_at_call 153;refine (HFC.out _).mono ?_;rintro e w' ⟨rfl,rfl⟩) | (go_at_call 67;refine (HV.out _ (by (exact kp))).mono ?_;rintro e w' ⟨rfl,rfl⟩) | (go_at_call 130;refine (HLD.out _ (by (exact kp))).mono ?_;rintro e w1 ⟨rfl,hk⟩) | fail)
    all_goals go_ret
    all_goals exact ⟨rfl,by (exact kp)⟩

set_option maxRecDepth 100000 in
theorem csize_calls {F:Nat → Prop} {w:World} {sb:Nat} {M:St} (h:StoreRep F w sb M) (f:Int) (v:Edge) (l:Int) (hv:v.ok) :
  Calls Tryz.prog 53 #[.pointer (some ⟨sb,0,none⟩),.int .u8 f,.agg #[.int .u8 v.tag,.int .u32 v.to],.int .i64 l] w fun r w'=>r=.returned (.tuple #[.int .i64 (if mayC M f v l=0 then ((reachL M.cs [v.to]).length:Int) else 0),.int .u8 (mayC M f v l)]) ∧ Keeps w w':=by
 have hmay:=fun (W:World) (hW:Keeps w W)=>may_calls' (h.keeps hW) f v l hv
 have HRE:=Lib.hid (fun (W:World) (hW:Keeps w W) (b:Nat) (cap:Nat) (hE:IsEdges W (some ⟨b,0,none⟩) 1 [v])=>reach_calls (h.keeps hW) (some ⟨b,0,none⟩) 1 cap [v] hE (by omega))
 have hr:=mayC_range M f v l
 obtain ⟨c,hc⟩:∃ c,c=mayC M f v l:=⟨_,rfl⟩
 rw [← hc] at hmay hr ⊢
 have HM:=Lib.hid hmay
 clear h hmay hc
 by_cases c0:c=0
 ·subst c0
  rw [if_pos rfl]
  go_enter Tryz.func53,Tryz.ntmps53
  go_wp2_with (first | (go_at_call 113;refine (HM.out _ (by (exact kp))).mono ?_;rintro e w1 ⟨rfl,hk⟩;have z0:w1.cell? ⟨w.heap.size,0,none⟩=some (.int .u8 v.tag):=hk.cell (by simp);have z1:w1.cell? ⟨w.heap.size,1,none⟩=some (.int .u32 v.to):=hk.cell (by simp);have hk1:Keeps w w1:=(by (exact kp))) | fail)
  refine (HRE.out _ (by (exact kp)) _ _ (isEdges_one hv (by simp [go_sem]) (by simp [go_sem]))).mono ?_
  rintro e w2 ⟨vv,rfl,hrow,hk2⟩
  obtain ⟨a,cap,rfl,hcc⟩:=hrow
  obtain ⟨n,hn⟩:∃ n,n=(reachL M.cs [v.to]).length:=⟨_,rfl⟩
  have hn':(reachL M.cs (List.map Edge.to [v])).length=n:=by rw [hn];rfl
  rw [hn']
  have HN:=Lib.hid hn
  clear hcc hn hn'
  go_wp2_with fail
  go_ret2
  exact ⟨by rw [← HN.out];rfl,by (exact kp)⟩
 ·rw [if_neg c0]
  have g0:(c != 0)=true:=by simp [c0]
  clear HRE
  go_enter Tryz.func53,Tryz.ntmps53
  go_wp2_with (first | (go_at_call 113;refine (HM.out _ (by (exact kp))).mono ?_;rintro e w1 ⟨rfl,hk⟩) | fail)
  go_ret2
  exact ⟨rfl,by (exact kp)⟩

end Go.Proofs.YtpgcbmbnognieaaGreat
