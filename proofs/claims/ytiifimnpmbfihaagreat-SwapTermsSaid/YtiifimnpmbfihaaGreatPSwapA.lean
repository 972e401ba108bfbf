/-
  What an assignment has at levels: Value, clear, free, side; may.
-/
import Derived.Test.YtiifimnpmbfihaaGreatPCube
import Derived.Test.YtiifimnpmbfihaaGreatPHPlainA
import Derived.Test.YtiifimnpmbfihaaGreatPRightT
namespace Go.Proofs.YtiifimnpmbfihaaGreat
set_option linter.unusedSimpArgs false
set_option linter.unusedVariables false
set_option maxHeartbeats 600000
open Go.RowKit

def bitB (x k:Int):Bool:=decide (x / 2 ^ k.toNat % 2=1)

def clearN (x a:Int):Nat → Bool
 | 0=>true
 | n + 1=>!bitB x a && clearN x (a + 1) n

def someB (x:Int) (r:Rec):Bool:=if r.form=3 then !clearN x r.top (r.bot + 1 - r.top).toNat else bitB x r.bot

def sideE (x:Int) (r:Rec):Edge:=if someB x r then r.hi else r.lo

def zeroAt (f:Int) (e:Edge) (l:Int):Bool:=decide (f=2) || decide (f=4) || (decide (f=5) && decide (e.tag ≤ l))

def hS (M:St) (f x:Int):Nat → Int → Edge → Bool
 | 0,_,e=>decide (e.to ≠ 0)
 | k + 1,l,e=>if e.to=0 then false else if M.n ≤ l then true else match look M.cs e.to with
  | none=>if zeroAt f e l && bitB x l then false else hS M f x k (l + 1) e
  | some r=>if l < r.top then (if zeroAt f e l && bitB x l then false else hS M f x k (l + 1) e) else hS M f x k (r.bot + 1) (sideE x r)

def mayC (M:St) (f:Int) (e:Edge) (l:Int):Int:=if isFormB f=false then 4 else if l < 0 ∨ M.n < l then 3 else if M.leads f e l=false then 1 else 0

theorem mayC_range (M:St) (f:Int) (e:Edge) (l:Int):0 ≤ mayC M f e l ∧ mayC M f e l ≤ 4:=by
 unfold mayC
 split
 ·decide
 ·split
  ·decide
  ·split <;> decide

theorem side_leads {M:St} (h:M.wf) {id x:Int} {r:Rec} (hl:look M.cs id=some r):M.leads r.form (sideE x r) (r.bot + 1)=true:=by
 have g:=h.goodRec hl
 unfold sideE
 split
 ·exact g.hi
 ·exact g.lo

theorem reaches_ext {M N:St} (hE:Ext M N) {roots:List Int} {id:Int} (h:Reaches M.cs roots id):Reaches N.cs roots id:=by
 intro S hS hC
 refine h S (fun x hx hl=>?_) (fun x r hx hl=>?_)
 ·cases hk:look M.cs x with
  | none=>exact absurd hk hl
  | some r=>exact hS x hx (by rw [hE.sub _ _ hk];simp)
 ·have hc:=hC x r hx (hE.sub _ _ hl)
  refine ⟨fun hh=>hc.1 ?_,fun hh=>hc.2 ?_⟩
  ·cases hk:look M.cs r.lo.to with
   | none=>exact absurd hk hh
   | some q=>rw [hE.sub _ _ hk];simp
  ·cases hk:look M.cs r.hi.to with
   | none=>exact absurd hk hh
   | some q=>rw [hE.sub _ _ hk];simp

def IsRoots (w:World) (a:Option Addr) (rs:List (Int × Edge)):Prop:=
 ∀ i r,rs[i]?=some r → (0 ≤ r.1 ∧ r.1 ≤ 255) ∧ r.2.ok ∧ ∃ b off,a=some ⟨b,off,none⟩ ∧ w.cell? ⟨b,off + i * 3,none⟩=some (.int .u8 r.1) ∧ w.cell? ⟨b,off + i * 3 + 1,none⟩=some (.int .u8 r.2.tag) ∧ w.cell? ⟨b,off + i * 3 + 2,none⟩=some (.int .u32 r.2.to)

theorem IsRoots.keeps {w w':World} {a:Option Addr} {rs:List (Int × Edge)} (h:IsRoots w a rs) (hk:Keeps w w'):IsRoots w' a rs:=fun i r hr=>by
 obtain ⟨h1,h2,b,off,ha,c0,c1,c2⟩:=h i r hr
 exact ⟨h1,h2,b,off,ha,hk.cell c0,hk.cell c1,hk.cell c2⟩

def EdgesAt (w:World) (a:Option Addr) (es:List Edge):Prop:=∀ i e,es[i]?=some e → e.ok ∧ ∃ b off,a=some ⟨b,off,none⟩ ∧ w.cell? ⟨b,off + i * 2,none⟩=some (.int .u8 e.tag) ∧ w.cell? ⟨b,off + i * 2 + 1,none⟩=some (.int .u32 e.to)

def mayL (M:St):List (Int × Edge) → Int
 | []=>0
 | r :: rs=>if mayC M r.1 r.2 0=0 then mayL M rs else mayC M r.1 r.2 0

theorem mayL_cons (M:St) (r:Int × Edge) (rs:List (Int × Edge)):mayL M (r :: rs)=if mayC M r.1 r.2 0=0 then mayL M rs else mayC M r.1 r.2 0:=rfl

theorem mayL_zero {M:St}:∀ {rs:List (Int × Edge)},mayL M rs=0 → ∀ r ∈ rs,(1 ≤ r.1 ∧ r.1 ≤ 5) ∧ M.leads r.1 r.2 0=true:=by
 intro rs
 induction rs with
 | nil=>intro _ r hr;cases hr
 | cons s rs ih=>
  intro h r hr
  unfold mayL at h
  split at h
  ·rename_i hc
   rcases List.mem_cons.1 hr with rfl | hr
   ·unfold mayC at hc
    split at hc
    ·cases hc
    ·rename_i hf
     split at hc
     ·cases hc
     ·split at hc
      ·cases hc
      ·rename_i hl
       have h1:isFormB r.1=true:=by cases hb:isFormB r.1 with | true=>rfl | false=>exact absurd hb hf
       unfold isFormB at h1
       exact ⟨by simpa using h1,by cases hb:M.leads r.1 r.2 0 with | true=>rfl | false=>exact absurd hb hl⟩
   ·exact ih h r hr
  ·rename_i hc
   exact absurd h hc

theorem mayL_range (M:St):∀ rs:List (Int × Edge),0 ≤ mayL M rs ∧ mayL M rs ≤ 4:=by
 intro rs
 induction rs with
 | nil=>exact ⟨Int.le_refl _,by show (0:Int) ≤ 4;decide⟩
 | cons r rs ih=>
  have:=mayC_range M r.1 r.2 0
  unfold mayL
  split
  ·exact ih
  ·omega

theorem mayC_0 {M:St} (h:M.wf) (f:Int) (e:Edge):mayC M f e 0=if isFormB f=false then 4 else if M.leads f e 0=false then 1 else 0:=by
 have:=h.n0
 unfold mayC
 rw [if_neg (show ¬ ((0:Int) < 0 ∨ M.n < 0) by omega)]

set_option maxRecDepth 100000 in
set_option maxHeartbeats 2000000 in
theorem swapMay_calls {F:Nat → Prop} {w:World} {sb:Nat} {M:St} (h:StoreRep F w sb M) (a:Option Addr) (cap:Nat) (rs:List (Int × Edge)) (hr:IsRoots w a rs) (hl:rs.length ≤ 1048576) :
  Calls Tryz.prog 214 #[.pointer (some ⟨sb,0,none⟩),.slice a rs.length cap] w fun e w'=>e=.returned (.int .u8 (mayL M rs)) ∧ Keeps w w':=by
 have HL:=Lib.hid (fun (f:Int) (v:Edge) (hv:v.ok) (W:World) (hW:Keeps w W)=>store_leads (h.keeps hW) f v 0 hv)
 have HW:=Lib.hid h.wf
 obtain ⟨N,hN⟩:∃ N,N=rs.length:=⟨_,rfl⟩
 rw [← hN] at hl ⊢
 have HR:=Lib.hid hr
 have HN:=Lib.hid hN
 clear h hr hN
 go_enter Tryz.func214,Tryz.ntmps214
 go_wp2
 go_loopg [9] N (fun gk s9 wr=>∃ d:Nat,s9=.int .i64 (d:Int) ∧ d + gk=N ∧ mayL M (rs.drop d)=mayL M rs ∧ Keeps w wr)
 case atStart=>exact ⟨0,rfl,by omega,rfl,by (exact kp)⟩
 case round=>
  obtain ⟨d,rfl,hd,hm,hk⟩:=hrel
  have HMM:=Lib.hid hm
  clear hm
  by_cases hlt:d < N
  ·obtain ⟨r,hx⟩:∃ b,rs[d]?=some b:=⟨_,List.getElem?_eq_getElem (by rw [← HN.out];exact hlt)⟩
   obtain ⟨hf8,hok,b,off,rfl,c0,c1,c2⟩:=HR.out d r hx
   replace c0:=hk.cell c0
   replace c1:=hk.cell c1
   replace c2:=hk.cell c2
   have hdr:rs.drop d=r :: rs.drop (d + 1):=by
    obtain ⟨hi,he⟩:=List.getElem?_eq_some_iff.1 hx
    rw [List.drop_eq_getElem_cons hi,he]
   have hm:=HMM.out
   rw [hdr] at hm
   rw [mayL_cons,mayC_0 HW.out] at hm
   obtain ⟨f,e⟩:=r
   have hif:=isForm_calls f
   have hle:=fun (W:World) (hW:Keeps w W)=>HL.out f e hok W hW
   dsimp only at hf8 hok c0 c1 c2 hm
   cases hfb:isFormB f with
   | false=>
    rw [hfb] at hif hm
    have HIF:=Lib.hid hif
    have hres:Hid (mayL M rs=4):=Lib.hid (by rw [← hm];simp)
    clear hm hif hle hdr hx hok hfb
    go_wp2_with (first | (go_at_call 84;refine (HIF.out _).mono ?_;rintro e' w' ⟨rfl,rfl⟩) | fail)
    go_ret
    exact ⟨by rw [hres.out];rfl,by (exact kp)⟩
   | true=>
    rw [hfb] at hif hm
    have HIF:=Lib.hid hif
    cases hlb:M.leads f e 0 with
    | false=>
     rw [hlb] at hle hm
     have HLE:=Lib.hid hle
     have hres:Hid (mayL M rs=1):=Lib.hid (by rw [← hm];simp)
     clear hm hif hle hdr hx hok hfb hlb
     go_wp2_with (first | (go_at_call 84;refine (HIF.out _).mono ?_;rintro e' w' ⟨rfl,rfl⟩) | (go_at_call 163;refine (HLE.out _ (by (exact kp))).mono ?_;rintro e' w3 ⟨rfl,hk3⟩) | fail)
     go_ret
     exact ⟨by rw [hres.out];rfl,by (exact kp)⟩
    | true=>
     rw [hlb] at hle hm
     have HLE:=Lib.hid hle
     have hres:Hid (mayL M (rs.drop (d + 1))=mayL M rs):=Lib.hid (by rw [← hm];simp)
     clear hm hif hle hdr hx hok hfb hlb
     go_wp2_with (first | (go_at_call 84;refine (HIF.out _).mono ?_;rintro e' w' ⟨rfl,rfl⟩) | (go_at_call 163;refine (HLE.out _ (by (exact kp))).mono ?_;rintro e' w3 ⟨rfl,hk3⟩) | fail)
     go_roundg (gk - 1)
     case rel=>exact ⟨d + 1,by simp,by omega,hres.out,by (exact kp)⟩
     case measure=>omega
  ·have hres:Hid (mayL M rs=0):=Lib.hid (by rw [← HMM.out,List.drop_of_length_le (by rw [← HN.out];omega)];rfl)
   clear HMM
   go_wp2_with fail
   go_ret
   exact ⟨by rw [hres.out];rfl,hk⟩

set_option maxRecDepth 100000 in
theorem swapFit_calls {F Fo:Nat → Prop} {w:World} {sb ob:Nat} {M:St} {ps:List Int} (h:StoreRep F w sb M) (ho:OrdRep Fo w ob ps) :
  Calls Tryz.prog 131 #[.pointer (some ⟨sb,0,none⟩),.pointer (some ⟨ob,0,none⟩)] w fun e w'=>e=.returned (.int .u8 (if M.n=(ps.length:Int) then 0 else 1)) ∧ Keeps w w':=by
 have HV:=Lib.hid (fun (W:World) (hW:Keeps w W)=>store_vars (h.keeps hW))
 have HO:=Lib.hid (fun (W:World) (hW:Keeps w W)=>ordVars_calls (ho.keeps hW))
 have hn0:=h.wf.n0
 have hn16:=h.wf.n16
 have hp16:=ho.le
 obtain ⟨N,hN⟩:∃ N,N=ps.length:=⟨_,rfl⟩
 obtain ⟨n,hn⟩:∃ n,n=M.n:=⟨_,rfl⟩
 rw [← hN] at HO hp16 ⊢
 rw [← hn] at HV hn0 hn16 ⊢
 clear h ho hN hn
 by_cases he:n=(N:Int)
 ·rw [if_pos he]
  subst he
  go_enter Tryz.func131,Tryz.ntmps131
  go_wp2_with (first | (go_at_call 97;refine (HV.out _ (by (exact kp))).mono ?_;rintro e' w' ⟨rfl,rfl⟩) | (go_at_call 116;refine (HO.out _ (by (exact kp))).mono ?_;rintro e' w' ⟨rfl,rfl⟩) | fail)
  go_ret
  exact ⟨rfl,by (exact kp)⟩
 ·rw [if_neg he]
  have g1:(n != (N:Int))=true:=by simp [he]
  go_enter Tryz.func131,Tryz.ntmps131
  go_wp2_with (first | (go_at_call 97;refine (HV.out _ (by (exact kp))).mono ?_;rintro e' w' ⟨rfl,rfl⟩) | (go_at_call 116;refine (HO.out _ (by (exact kp))).mono ?_;rintro e' w' ⟨rfl,rfl⟩) | fail)
  go_ret
  exact ⟨rfl,by (exact kp)⟩

theorem unf_agree {f:Int} {M M':St} (hM:Fine f M) {roots:List Int} (hR:∀ id,Reaches M.cs roots id → look M'.cs id=look M.cs id) :
  ∀ (n:Nat) (e:Edge) (l:Int),At f M e l n → (look M.cs e.to ≠ none → Reaches M.cs roots e.to) → unfL f M' n e=unfL f M n e:=by
 intro n
 induction n with
 | zero=>intro e l h;obtain ⟨m,hm⟩:=h.pos hM;omega
 | succ n ih=>
  intro e l h hr
  rcases h.cases hM with ⟨h0,h2⟩ | ⟨r,hl,_,_,_,_,_,_,_,_,hlo,hhi⟩
  ·rw [unfL_leaf h0 h2,unfL_leaf h0 h2]
  ·have hre:=hr (by rw [hl];simp)
   have hl':look M'.cs e.to=some r:=by rw [hR _ hre,hl]
   have hc:=Reaches.closed M.cs roots e.to r hre hl
   rw [unfL_node hl,unfL_node hl']
   unfold nodeL
   rw [ih _ _ hlo hc.1,ih _ _ hhi hc.2]

theorem unfS_of {f:Int} {M M':St} {n:Nat} {e:Edge} (h:unfL f M' n e=unfL f M n e):unfS f M' n e=unfS f M n e:=by
 apply ByteArray.ext
 exact Array.toList_inj.1 h

theorem StoreRep.fine {F:Nat → Prop} {w:World} {sb:Nat} {M:St} (h:StoreRep F w sb M) (f:Int) (h9:M.n ≤ 9):Fine f M:=⟨h.wf,fun _ _ hl=>⟨(h.fit hl).lo.2.1,(h.fit hl).hi.2.1⟩,h9⟩

end Go.Proofs.YtiifimnpmbfihaaGreat
