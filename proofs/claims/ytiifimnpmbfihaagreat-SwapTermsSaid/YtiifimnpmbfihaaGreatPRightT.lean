/-
  Texts: the digits, the tags; the same tables; no 1 in a table.
-/
import Derived.Test.YtiifimnpmbfihaaGreatPRightA
import Derived.Laws.BytesArg
import Derived.RangeFuncStops
import Derived.RangeFuncCalls
import Derived.RangeFuncLeaves
import Derived.RangeFuncBox
import Derived.Shelf.Abstract
import Derived.Shelf.RegionOpen
import Derived.OwnWalkIn
import Derived.TacticsInMore
import Derived.LoopNIn
import Derived.LoopIn
namespace Go.Proofs.YtiifimnpmbfihaaGreat
set_option linter.unusedSimpArgs false
set_option linter.unusedVariables false
set_option maxHeartbeats 600000
open Go.RowKit

def digS (k:Int):ByteArray:=strOfNums [48 + k]

set_option maxRecDepth 100000 in
theorem num_calls (k:Int) (w:World) (h0:0 ≤ k) (h1:k < 10):Calls Tryz.prog 253 #[.int .i64 k] w fun e w'=>e=.returned (.string (digS k)) ∧ Keeps w w':=by
 have hcv:=run_convert_bytes_arg (P:=Tryz.prog) (w.alloc (.cells #[.int .u8 (48 + k)] 5)) 37 5 rfl rfl w.heap.size 0 1 1 [48 + k] rfl (fun i hi=>by
  have hi0:i=0:=by omega
  subst hi0
  simp) 9 rfl
 go_enter Tryz.func253,Tryz.ntmps253
 go_wp2
 go_ret
 exact ⟨rfl,by (exact kp)⟩

theorem tag_calls (k:Int) (w:World) (h0:0 ≤ k) (h1:k < 10):Calls Tryz.prog 254 #[.int .i64 k] w fun e w'=>e=.returned (.string (digS k ++ ⟨#[64]⟩)) ∧ Keeps w w':=by
 have HN:=Lib.hid (fun W=>num_calls k W h0 h1)
 go_enter Tryz.func254,Tryz.ntmps254
 go_wp2_with (first | (go_at_call 253;refine (HN.out _).mono ?_;rintro e w1 ⟨rfl,hk⟩) | fail)
 go_ret
 exact ⟨rfl,by (exact kp)⟩

def TabAt (w:World) (B off:Nat) (ts:List Bool):Prop:=∀ (i:Nat) (b:Bool),ts[i]?=some b → w.cell? ⟨B,off + i,none⟩=some (.bool b)

theorem TabAt.keeps {w W:World} {B off:Nat} {ts:List Bool} (h:TabAt w B off ts) (hk:Keeps w W):TabAt W B off ts:=fun i b hb=>hk.cell (h i b hb)

theorem TabAt.drop {w:World} {B off:Nat} {ts:List Bool} (h:TabAt w B off ts) (n:Nat):TabAt w B (off + n) (ts.drop n):=fun i b hb=>by
 rw [List.getElem?_drop] at hb
 have:=h (n + i) b hb
 rwa [← Nat.add_assoc] at this

theorem TabAt.take {w:World} {B off:Nat} {ts:List Bool} (h:TabAt w B off ts) (n:Nat):TabAt w B off (ts.take n):=fun i b hb=>by
 rw [List.getElem?_take] at hb
 split at hb
 ·exact h i b hb
 ·cases hb

def noneL:List Bool → Bool
 | []=>true
 | b :: t=>!b && noneL t

theorem noneL_drop {ts:List Bool} {i:Nat} {b:Bool} (h:ts[i]?=some b):noneL (ts.drop i)=(!b && noneL (ts.drop (i + 1))):=by
 obtain ⟨hi,hb⟩:=List.getElem?_eq_some_iff.1 h
 rw [List.drop_eq_getElem_cons hi,hb]
 rfl

def sameL:List Bool → List Bool → Bool
 | [],[]=>true
 | a :: s,b :: t=>decide (a=b) && sameL s t
 | _,_=>false

theorem sameL_iff:∀ {s t:List Bool},sameL s t=true ↔ s=t
 | [],[]=>by simp [sameL]
 | a :: s,b :: t=>by simp [sameL,sameL_iff]
 | [],b :: t=>by simp [sameL]
 | a :: s,[]=>by simp [sameL]

theorem sameL_len {s t:List Bool} (h:s.length ≠ t.length):sameL s t=false:=by
 cases hs:sameL s t with
 | false=>rfl
 | true=>exact absurd (congrArg List.length (sameL_iff.1 hs)) h

theorem sameL_drop {s t:List Bool} {i:Nat} {a b:Bool} (ha:s[i]?=some a) (hb:t[i]?=some b):sameL (s.drop i) (t.drop i)=(decide (a=b) && sameL (s.drop (i + 1)) (t.drop (i + 1))):=by
 obtain ⟨hi,ha⟩:=List.getElem?_eq_some_iff.1 ha
 obtain ⟨hj,hb⟩:=List.getElem?_eq_some_iff.1 hb
 rw [List.drop_eq_getElem_cons hi,List.drop_eq_getElem_cons hj,ha,hb]
 rfl

theorem none13_calls {B off:Nat} {ts:List Bool} (cap:Nat) (w:World) (h:TabAt w B off ts) (hl:ts.length ≤ 1048576) :
  Calls Tryz.prog 259 #[.slice (some ⟨B,off,none⟩) ts.length cap] w fun e w'=>e=.returned (.bool (noneL ts)) ∧ w=w':=by
 obtain ⟨N,hN⟩:∃ N,N=ts.length:=⟨_,rfl⟩
 rw [← hN] at hl ⊢
 have H:=Lib.hid h
 have HN:=Lib.hid hN
 clear h hN
 go_enter Tryz.func259,Tryz.ntmps259
 go_wp2
 go_loopg [3] N (fun gk s3 wr=>∃ d:Nat,s3=.int .i64 (d:Int) ∧ d + gk=N ∧ noneL (ts.drop d)=noneL ts ∧ w=wr)
 case atStart=>exact ⟨0,rfl,by omega,rfl,rfl⟩
 case round=>
  obtain ⟨d,rfl,hd,hn,rfl⟩:=hrel
  have HNN:=Lib.hid hn
  clear hn
  by_cases hlt:d < N
  ·obtain ⟨b,hb⟩:∃ b,ts[d]?=some b:=⟨_,List.getElem?_eq_getElem (by rw [← HN.out];exact hlt)⟩
   have c0:=H.out d b hb
   have hdr:=noneL_drop hb
   have HD:=Lib.hid hdr
   clear hdr hb
   cases b
   ·go_wp2_with fail
    go_roundg (gk - 1)
    case rel=>exact ⟨d + 1,by simp,by omega,by rw [← HNN.out,HD.out];rfl,rfl⟩
    case measure=>omega
   ·go_wp2_with fail
    go_ret
    exact ⟨by rw [← HNN.out,HD.out];rfl,rfl⟩
  ·have hg0:d=N:=by omega
   have hh:noneL ts=true:=by rw [← HNN.out,List.drop_of_length_le (by rw [← HN.out];omega)];rfl
   have HH:=Lib.hid hh
   clear hg0 hh
   go_wp2_with fail
   go_ret
   exact ⟨by rw [HH.out];rfl,rfl⟩

theorem none15_calls {B off:Nat} {ts:List Bool} (cap:Nat) (w:World) (h:TabAt w B off ts) (hl:ts.length ≤ 1048576) :
  Calls Tryz.prog 262 #[.slice (some ⟨B,off,none⟩) ts.length cap] w fun e w'=>e=.returned (.bool (noneL ts)) ∧ w=w':=by
 obtain ⟨N,hN⟩:∃ N,N=ts.length:=⟨_,rfl⟩
 rw [← hN] at hl ⊢
 have H:=Lib.hid h
 have HN:=Lib.hid hN
 clear h hN
 go_enter Tryz.func262,Tryz.ntmps262
 go_wp2
 go_loopg [3] N (fun gk s3 wr=>∃ d:Nat,s3=.int .i64 (d:Int) ∧ d + gk=N ∧ noneL (ts.drop d)=noneL ts ∧ w=wr)
 case atStart=>exact ⟨0,rfl,by omega,rfl,rfl⟩
 case round=>
  obtain ⟨d,rfl,hd,hn,rfl⟩:=hrel
  have HNN:=Lib.hid hn
  clear hn
  by_cases hlt:d < N
  ·obtain ⟨b,hb⟩:∃ b,ts[d]?=some b:=⟨_,List.getElem?_eq_getElem (by rw [← HN.out];exact hlt)⟩
   have c0:=H.out d b hb
   have hdr:=noneL_drop hb
   have HD:=Lib.hid hdr
   clear hdr hb
   cases b
   ·go_wp2_with fail
    go_roundg (gk - 1)
    case rel=>exact ⟨d + 1,by simp,by omega,by rw [← HNN.out,HD.out];rfl,rfl⟩
    case measure=>omega
   ·go_wp2_with fail
    go_ret
    exact ⟨by rw [← HNN.out,HD.out];rfl,rfl⟩
  ·have hg0:d=N:=by omega
   have hh:noneL ts=true:=by rw [← HNN.out,List.drop_of_length_le (by rw [← HN.out];omega)];rfl
   have HH:=Lib.hid hh
   clear hg0 hh
   go_wp2_with fail
   go_ret
   exact ⟨by rw [HH.out];rfl,rfl⟩

theorem none16_calls {B off:Nat} {ts:List Bool} (cap:Nat) (w:World) (h:TabAt w B off ts) (hl:ts.length ≤ 1048576) :
  Calls Tryz.prog 264 #[.slice (some ⟨B,off,none⟩) ts.length cap] w fun e w'=>e=.returned (.bool (noneL ts)) ∧ w=w':=by
 obtain ⟨N,hN⟩:∃ N,N=ts.length:=⟨_,rfl⟩
 rw [← hN] at hl ⊢
 have H:=Lib.hid h
 have HN:=Lib.hid hN
 clear h hN
 go_enter Tryz.func264,Tryz.ntmps264
 go_wp2
 go_loopg [3] N (fun gk s3 wr=>∃ d:Nat,s3=.int .i64 (d:Int) ∧ d + gk=N ∧ noneL (ts.drop d)=noneL ts ∧ w=wr)
 case atStart=>exact ⟨0,rfl,by omega,rfl,rfl⟩
 case round=>
  obtain ⟨d,rfl,hd,hn,rfl⟩:=hrel
  have HNN:=Lib.hid hn
  clear hn
  by_cases hlt:d < N
  ·obtain ⟨b,hb⟩:∃ b,ts[d]?=some b:=⟨_,List.getElem?_eq_getElem (by rw [← HN.out];exact hlt)⟩
   have c0:=H.out d b hb
   have hdr:=noneL_drop hb
   have HD:=Lib.hid hdr
   clear hdr hb
   cases b
   ·go_wp2_with fail
    go_roundg (gk - 1)
    case rel=>exact ⟨d + 1,by simp,by omega,by rw [← HNN.out,HD.out];rfl,rfl⟩
    case measure=>omega
   ·go_wp2_with fail
    go_ret
    exact ⟨by rw [← HNN.out,HD.out];rfl,rfl⟩
  ·have hg0:d=N:=by omega
   have hh:noneL ts=true:=by rw [← HNN.out,List.drop_of_length_le (by rw [← HN.out];omega)];rfl
   have HH:=Lib.hid hh
   clear hg0 hh
   go_wp2_with fail
   go_ret
   exact ⟨by rw [HH.out];rfl,rfl⟩

theorem same_calls {B B2 off off2:Nat} {ss ts:List Bool} (cap cap2:Nat) (w:World) (h1:TabAt w B off ss) (h2:TabAt w B2 off2 ts) (hl1:ss.length ≤ 1048576) (hl2:ts.length ≤ 1048576) :
  Calls Tryz.prog 48 #[.slice (some ⟨B,off,none⟩) ss.length cap,.slice (some ⟨B2,off2,none⟩) ts.length cap2] w fun e w'=>e=.returned (.bool (sameL ss ts)) ∧ Keeps w w':=by
 by_cases hne:ss.length=ts.length
 ·obtain ⟨N,hN⟩:∃ N,N=ss.length:=⟨_,rfl⟩
  have hM:N=ts.length:=hN.trans hne
  rw [← hM,← hN]
  rw [← hN] at hl1
  have H1:=Lib.hid h1
  have H2:=Lib.hid h2
  have HN:=Lib.hid hN
  have HM:=Lib.hid hM
  clear h1 h2 hN hM hne hl2
  go_enter Tryz.func48,Tryz.ntmps48
  go_wp2
  go_loopg [5] N (fun gk s5 wr=>∃ d:Nat,s5=.int .i64 (d:Int) ∧ d + gk=N ∧ sameL (ss.drop d) (ts.drop d)=sameL ss ts ∧ Keeps w wr)
  case atStart=>exact ⟨0,rfl,by omega,rfl,by (exact kp)⟩
  case round=>
   obtain ⟨d,rfl,hd,hn,hk⟩:=hrel
   have HNN:=Lib.hid hn
   clear hn
   by_cases hlt:d < N
   ·obtain ⟨a,ha⟩:∃ b,ss[d]?=some b:=⟨_,List.getElem?_eq_getElem (by rw [← HN.out];exact hlt)⟩
    obtain ⟨b,hb⟩:∃ b,ts[d]?=some b:=⟨_,List.getElem?_eq_getElem (by rw [← HM.out];exact hlt)⟩
    have c0:=hk.cell (H1.out d a ha)
    have c1:=hk.cell (H2.out d b hb)
    have hdr:=sameL_drop ha hb
    have HD:=Lib.hid hdr
    have i0:(0:Int) ≤ (d:Int):=by omega
    have i1:(d:Int) < (N:Int):=by omega
    clear hdr ha hb
    cases a <;> cases b
    case false.false=>
     go_wp2_with fail
     go_quiet (fail)
     go_wp2
     go_roundg (gk - 1)
     case rel=>exact ⟨d + 1,by simp,by omega,by rw [← HNN.out,HD.out];rfl,by (exact kp)⟩
     case measure=>omega
    case true.true=>
     go_wp2_with fail
     go_quiet (fail)
     go_wp2
     go_roundg (gk - 1)
     case rel=>exact ⟨d + 1,by simp,by omega,by rw [← HNN.out,HD.out];rfl,by (exact kp)⟩
     case measure=>omega
    all_goals
     go_wp2_with fail
     go_quiet (fail)
     go_wp2
     go_ret
     exact ⟨by rw [← HNN.out,HD.out];rfl,by (exact kp)⟩
   ·have hg0:d=N:=by omega
    have hh:sameL ss ts=true:=by rw [← HNN.out,List.drop_of_length_le (by rw [← HN.out];omega),List.drop_of_length_le (by rw [← HM.out];omega)];rfl
    have HH:=Lib.hid hh
    clear hg0 hh
    go_wp2_with fail
    go_ret
    exact ⟨by rw [HH.out];rfl,hk⟩
 ·have hf:=sameL_len hne
  obtain ⟨N,hN⟩:∃ N,N=ss.length:=⟨_,rfl⟩
  obtain ⟨K,hK⟩:∃ K,K=ts.length:=⟨_,rfl⟩
  rw [hf]
  rw [← hN,← hK] at hne ⊢
  have gne:((N:Int) != (K:Int))=true:=by simp;omega
  clear h1 h2 hl1 hl2 hN hK hf hne
  go_enter Tryz.func48,Tryz.ntmps48
  go_wp2
  go_ret
  exact ⟨rfl,by (exact kp)⟩

theorem halves12_calls {B off:Nat} (p cap:Nat) (w:World) (hp1:1 ≤ p) (hp:2 * p ≤ cap) (hc:cap ≤ 1048576) :
  Calls Tryz.prog 256 #[.slice (some ⟨B,off,none⟩) (2 * p) cap] w fun e w'=>e=.returned (.tuple #[.slice (some ⟨B,off,none⟩) p cap,.slice (some ⟨B,off + p,none⟩) p (cap - p)]) ∧ Keeps w w':=by
 have q1:(2 * (p:Int)) / 2=(p:Int):=by omega
 have q2:((2 * (p:Int)).tdiv 2)=(p:Int):=by rw [Int.tdiv_eq_ediv_of_nonneg (by omega)];exact q1
 go_enter Tryz.func256,Tryz.ntmps256
 go_wp2_with fail
 go_quiet (fail)
 go_wp2
 rw [show 2 * p - p=p by omega]
 go_ret2
 exact ⟨rfl,by (exact kp)⟩

theorem halves13_calls {B off:Nat} (p cap:Nat) (w:World) (hp1:1 ≤ p) (hp:2 * p ≤ cap) (hc:cap ≤ 1048576) :
  Calls Tryz.prog 258 #[.slice (some ⟨B,off,none⟩) (2 * p) cap] w fun e w'=>e=.returned (.tuple #[.slice (some ⟨B,off,none⟩) p cap,.slice (some ⟨B,off + p,none⟩) p (cap - p)]) ∧ Keeps w w':=by
 have q1:(2 * (p:Int)) / 2=(p:Int):=by omega
 have q2:((2 * (p:Int)).tdiv 2)=(p:Int):=by rw [Int.tdiv_eq_ediv_of_nonneg (by omega)];exact q1
 go_enter Tryz.func258,Tryz.ntmps258
 go_wp2_with fail
 go_quiet (fail)
 go_wp2
 rw [show 2 * p - p=p by omega]
 go_ret2
 exact ⟨rfl,by (exact kp)⟩

theorem halves14_calls {B off:Nat} (p cap:Nat) (w:World) (hp1:1 ≤ p) (hp:2 * p ≤ cap) (hc:cap ≤ 1048576) :
  Calls Tryz.prog 261 #[.slice (some ⟨B,off,none⟩) (2 * p) cap] w fun e w'=>e=.returned (.tuple #[.slice (some ⟨B,off,none⟩) p cap,.slice (some ⟨B,off + p,none⟩) p (cap - p)]) ∧ Keeps w w':=by
 have q1:(2 * (p:Int)) / 2=(p:Int):=by omega
 have q2:((2 * (p:Int)).tdiv 2)=(p:Int):=by rw [Int.tdiv_eq_ediv_of_nonneg (by omega)];exact q1
 go_enter Tryz.func261,Tryz.ntmps261
 go_wp2_with fail
 go_quiet (fail)
 go_wp2
 rw [show 2 * p - p=p by omega]
 go_ret2
 exact ⟨rfl,by (exact kp)⟩

theorem halves15_calls {B off:Nat} (p cap:Nat) (w:World) (hp1:1 ≤ p) (hp:2 * p ≤ cap) (hc:cap ≤ 1048576) :
  Calls Tryz.prog 263 #[.slice (some ⟨B,off,none⟩) (2 * p) cap] w fun e w'=>e=.returned (.tuple #[.slice (some ⟨B,off,none⟩) p cap,.slice (some ⟨B,off + p,none⟩) p (cap - p)]) ∧ Keeps w w':=by
 have q1:(2 * (p:Int)) / 2=(p:Int):=by omega
 have q2:((2 * (p:Int)).tdiv 2)=(p:Int):=by rw [Int.tdiv_eq_ediv_of_nonneg (by omega)];exact q1
 go_enter Tryz.func263,Tryz.ntmps263
 go_wp2_with fail
 go_quiet (fail)
 go_wp2
 rw [show 2 * p - p=p by omega]
 go_ret2
 exact ⟨rfl,by (exact kp)⟩

theorem halves16_calls {B off:Nat} (p cap:Nat) (w:World) (hp1:1 ≤ p) (hp:2 * p ≤ cap) (hc:cap ≤ 1048576) :
  Calls Tryz.prog 265 #[.slice (some ⟨B,off,none⟩) (2 * p) cap] w fun e w'=>e=.returned (.tuple #[.slice (some ⟨B,off,none⟩) p cap,.slice (some ⟨B,off + p,none⟩) p (cap - p)]) ∧ Keeps w w':=by
 have q1:(2 * (p:Int)) / 2=(p:Int):=by omega
 have q2:((2 * (p:Int)).tdiv 2)=(p:Int):=by rw [Int.tdiv_eq_ediv_of_nonneg (by omega)];exact q1
 go_enter Tryz.func265,Tryz.ntmps265
 go_wp2_with fail
 go_quiet (fail)
 go_wp2
 rw [show 2 * p - p=p by omega]
 go_ret2
 exact ⟨rfl,by (exact kp)⟩

def unfS (f:Int) (M:St):Nat → Edge → ByteArray
 | 0,_=>⟨#[63]⟩
 | n + 1,e=>
  if f=5 then
   if e.to=0 then ⟨#[48]⟩ else if e.to=1 then digS e.tag ++ ⟨#[64]⟩ ++ ⟨#[49]⟩
   else digS e.tag ++ ⟨#[64]⟩ ++ ⟨#[40]⟩ ++ digS (grec (look M.cs e.to)).top ++ ⟨#[32]⟩ ++ unfS f M n (grec (look M.cs e.to)).lo ++ ⟨#[32]⟩ ++ unfS f M n (grec (look M.cs e.to)).hi ++ ⟨#[41]⟩
  else if e.to < 2 then digS e.to
  else if f=3 ∨ f=4 then ⟨#[40]⟩ ++ digS (grec (look M.cs e.to)).top ++ ⟨#[58]⟩ ++ digS (grec (look M.cs e.to)).bot ++ ⟨#[32]⟩ ++ unfS f M n (grec (look M.cs e.to)).lo ++ ⟨#[32]⟩ ++ unfS f M n (grec (look M.cs e.to)).hi ++ ⟨#[41]⟩
  else ⟨#[40]⟩ ++ digS (grec (look M.cs e.to)).top ++ ⟨#[32]⟩ ++ unfS f M n (grec (look M.cs e.to)).lo ++ ⟨#[32]⟩ ++ unfS f M n (grec (look M.cs e.to)).hi ++ ⟨#[41]⟩

theorem digS_size (k:Int):(digS k).size=1:=rfl

theorem unfS_size (f:Int) (M:St):∀ (n:Nat) (e:Edge),(unfS f M n e).size + 7 ≤ 8 * 2 ^ n:=by
 intro n
 induction n with
 | zero=>intro e;exact Nat.le_refl 8
 | succ n ih=>
  intro e
  have h1:=ih (grec (look M.cs e.to)).lo
  have h2:=ih (grec (look M.cs e.to)).hi
  have hp:0 < 2 ^ n:=Nat.pow_pos (by decide)
  have e2:2 ^ (n + 1)=2 * 2 ^ n:=by rw [Nat.pow_succ];omega
  rw [e2]
  unfold unfS
  split
  ·split
   ·show 1 + 7 ≤ _;omega
   ·split
    ·simp only [ByteArray.size_append,digS_size];show 1 + 1 + 1 + 7 ≤ _;omega
    ·simp only [ByteArray.size_append,digS_size]
     show 1 + 1 + 1 + 1 + 1 + _ + 1 + _ + 1 + 7 ≤ _
     omega
  ·split
   ·rw [digS_size];omega
   ·split
    ·simp only [ByteArray.size_append,digS_size]
     show 1 + 1 + 1 + 1 + 1 + _ + 1 + _ + 1 + 7 ≤ _
     omega
    ·simp only [ByteArray.size_append,digS_size]
     show 1 + 1 + 1 + _ + 1 + _ + 1 + 7 ≤ _
     omega

theorem unfS_few (f:Int) (M:St) {n:Nat} (hn:n ≤ 20) (e:Edge):(unfS f M n e).size ≤ 8388608:=by
 have h:=unfS_size f M n e
 have h1:2 ^ n ≤ 2 ^ 20:=Nat.pow_le_pow_right (by decide) hn
 have h2:(2:Nat) ^ 20=1048576:=rfl
 omega

theorem grec_small {M:St} (h:M.wf) (hn:M.n ≤ 9) (id:Int):(grec (look M.cs id)).top < 10 ∧ (grec (look M.cs id)).bot < 10:=by
 cases hl:look M.cs id with
 | none=>exact ⟨by decide,by decide⟩
 | some r=>
  have:=(h.goodRec hl).tb
  have:=(h.goodRec hl).bn
  show r.top < 10 ∧ r.bot < 10
  omega

set_option maxRecDepth 100000 in
set_option maxHeartbeats 2000000 in
theorem tbdd_right {F:Nat → Prop} {w:World} {sb:Nat} {M:St} (h:StoreRep F w sb M) (v:Edge) (l:Int) (hv:v.ok) :
  Calls Tryz.prog 173 #[.pointer (some ⟨sb,0,none⟩),.agg #[.int .u8 v.tag,.int .u32 v.to],.int .i64 l] w fun r w'=>r=.returned (.bool (rightL M 5 v l)) ∧ Keeps w w':=by
 have hwf:=Lib.hid h.wf
 have HRK:=Lib.hid (fun (id:Int) (r:Rec) (hl:look M.cs id=some r)=>h.fit hl)
 have hn16:=h.wf.n16
 have hfew:=h.few
 have hlenr:=reachL_few h.wf h.few [v.to]
 have HG:=Lib.hid (fun (W:World) (hW:Keeps w W) (id:Int) (hid:id ≤ 4294967295)=>store_get (h.keeps hW) id hid)
 have hleads:=fun (W:World) (hW:Keeps w W)=>store_leads (h.keeps hW) 5 v l hv
 have HRE:=Lib.hid (fun (W:World) (hW:Keeps w W) (b:Nat) (cap:Nat) (hE:IsEdges W (some ⟨b,0,none⟩) 1 [v])=>reach_calls (h.keeps hW) (some ⟨b,0,none⟩) 1 cap [v] hE (by omega))
 clear h
 rcases bool_cases (M.leads 5 v l) with hb | hb
 ·rw [hb] at hleads
  have HL:=Lib.hid hleads
  have HF:=Lib.hid (rightL_no hb)
  clear hleads hb
  go_enter Tryz.func173,Tryz.ntmps173
  go_wp2_with (first | (go_at_call 163;refine (HL.out _ (by (exact kp))).mono ?_;rintro e w1 ⟨rfl,hk⟩) | fail)
  go_ret
  exact ⟨by rw [HF.out];rfl,by (exact kp)⟩
 ·rw [hb] at hleads
  have HL:=Lib.hid hleads
  have HB:=Lib.hid hb
  clear hleads hb
  go_enter Tryz.func173,Tryz.ntmps173
  go_wp2_with (first | (go_at_call 163;refine (HL.out _ (by (exact kp))).mono ?_;rintro e w1 ⟨rfl,hk⟩;have z0:w1.cell? ⟨w.heap.size,0,none⟩=some (.int .u8 v.tag):=hk.cell (by simp);have z1:w1.cell? ⟨w.heap.size,1,none⟩=some (.int .u32 v.to):=hk.cell (by simp);have hk1:Keeps w w1:=(by (exact kp))) | fail)
  refine (HRE.out _ (by (exact kp)) _ _ (isEdges_one hv (by simp [go_sem]) (by simp [go_sem]))).mono ?_
  rintro e w2 ⟨vv,rfl,hrow,hk2⟩
  obtain ⟨ids,hids⟩:∃ ids,ids=reachL M.cs [v.to]:=⟨_,rfl⟩
  have hrow:IdRow w2 vv ids:=by rw [hids];exact hrow
  rw [← hids] at hlenr
  obtain ⟨a,cap,rfl,hc⟩:=hrow
  have HID:=Lib.hid hids
  have HC:=Lib.hid hc
  have HK2:=Lib.hid (show Keeps w w2 by (exact kp))
  clear hids hc hk2 hk hk1 z0 z1 hv
  go_wp2_with fail
  go_loopg [21] ids.length (fun gk s21 wr=>∃ d:Nat,d + gk=ids.length ∧ s21=.int .i64 (d:Int) ∧ Keeps w2 wr ∧ ∀ (i:Nat) (id:Int),i < d → ids[i]?=some id → wrongB M 5 (grec (look M.cs id))=false)
  case atStart=>exact ⟨0,by omega,rfl,Keeps.refl _,fun i id hi=>absurd hi (by omega)⟩
  case round=>
   obtain ⟨d,hd,rfl,hk,hw⟩:=hrel
   have HK:=Lib.hid hk
   have HW:=Lib.hid hw
   clear hk hw
   by_cases hlt:d < ids.length
   ·obtain ⟨id,hid⟩:∃ id,ids[d]?=some id:=⟨_,List.getElem?_eq_getElem hlt⟩
    obtain ⟨g,rfl,hcell⟩:=HC.out d id hid
    have cd:=HK.out.cell hcell
    have HI:=Lib.hid hid
    obtain ⟨x,hx,gx,i2,i3⟩:=reach_rec hwf.out (d:=d) (id:=id) (es:=[v.to]) (by rw [← HID.out];exact hid)
    have t1:=gx.tb
    have t2:=gx.bn
    have hokx:=HRK.out id x hx
    have tok:0 ≤ x.top:=hokx.top.1
    have tok2:0 ≤ x.bot:=hokx.bot.1
    have tlo:=hokx.lo.2.2
    have HX:=Lib.hid hx
    have hkw:Keeps w wr:=HK2.out.trans HK.out
    have hnext:Hid (wrongB M 5 (grec (look M.cs id))=false → ∀ (i:Nat) (id':Int),i < d + 1 → ids[i]?=some id' → wrongB M 5 (grec (look M.cs id'))=false):=Lib.hid (fun hf i id' hi hi'=>by
     by_cases hid:i < d
     ·exact HW.out i id' hid hi'
     ·obtain rfl:i=d:=by omega
      rw [HI.out] at hi'
      cases hi'
      exact hf)
    have hstop:Hid (wrongB M 5 (grec (look M.cs id))=true → rightL M 5 v l=false):=Lib.hid (fun hf=>rightL_bad (d:=d) (id:=id) (by rw [← HID.out];exact HI.out) hf)
    clear hid hcell hokx
    have HGx:Hid (∀ W,Keeps w W → Calls Tryz.prog 99 #[.pointer (some ⟨sb,0,none⟩),.int .u32 id] W fun e w'=>e=.returned (.tuple #[.agg #[.int .u8 x.form,.int .u8 x.top,.int .u8 x.bot,.int .u8 x.lo.tag,.int .u32 x.lo.to,.int .u8 x.hi.tag,.int .u32 x.hi.to],.bool true]) ∧ Keeps W w'):=
     Lib.hid (fun W hW=>by have:=HG.out W hW id (by omega);rw [hx] at this;exact this)
    have hwx:wrongB M 5 (grec (look M.cs id))=(decide (x.hi.to=0) && decide (x.lo.tag=x.top + 1)):=by rw [hx];rfl
    have HWx:=Lib.hid hwx
    clear hwx
    clear hx hkw gx
    by_cases c1:x.hi.to=0
    ·by_cases c2:x.lo.tag=x.top + 1
     ·go_wp2_with (first | (go_at_call 99;refine (HGx.out _ (HK2.out.trans HK.out)).mono ?_;rintro e w3 ⟨rfl,hb3⟩) | fail)
      go_ret
      exact ⟨by rw [hstop.out (by rw [HWx.out];simp [c1,c2])];rfl,by have:=HK2.out;have:=HK.out;(exact kp)⟩
     ·go_wp2_with (first | (go_at_call 99;refine (HGx.out _ (HK2.out.trans HK.out)).mono ?_;rintro e w3 ⟨rfl,hb3⟩) | fail)
      go_roundg (gk - 1)
      case rel=>exact ⟨d + 1,by omega,by simp,by have:=HK.out;(exact kp),hnext.out (by rw [HWx.out];simp [c1,c2])⟩
      case measure=>omega
    ·go_wp2_with (first | (go_at_call 99;refine (HGx.out _ (HK2.out.trans HK.out)).mono ?_;rintro e w3 ⟨rfl,hb3⟩) | fail)
     go_roundg (gk - 1)
     case rel=>exact ⟨d + 1,by omega,by simp,by have:=HK.out;(exact kp),hnext.out (by rw [HWx.out];simp [c1])⟩
     case measure=>omega
   ·go_wp2
    go_ret
    have hd':d=ids.length:=by omega
    refine ⟨by rw [rightL_good HB.out (fun i id hi hi'=>HW.out i id (by rw [← HID.out] at hi;omega) (by rw [HID.out];exact hi'))];rfl,HK2.out.trans HK.out⟩

def scanL:List UInt8 → Nat → Nat
 | [],_=>0
 | _ :: _,0=>0
 | b :: u,d + 1=>1 + scanL u (if b=40 then d + 2 else if b=41 then d else d + 1)

def addOne (out:List (List UInt8)) (x:List UInt8):List (List UInt8):=if x ∈ out then out else out ++ [x]

def ps:List UInt8 → List (List UInt8) → List (List UInt8)
 | [],out=>out
 | b :: u,out=>ps u (if b=40 then addOne out ((b :: u).take (1 + scanL u 1)) else out)

def dB (k:Int):UInt8:=UInt8.ofNat (48 + k).toNat

def unfL (f:Int) (M:St) (n:Nat) (e:Edge):List UInt8:=(unfS f M n e).data.toList

def preL (f:Int) (e:Edge):List UInt8:=if f=5 then [dB e.tag,64] else []
def midL (f:Int) (r:Rec):List UInt8:=if f=3 ∨ f=4 then [dB r.top,58,dB r.bot,32] else [dB r.top,32]
def leafL (f:Int) (e:Edge):List UInt8:=if f=5 then (if e.to=0 then [48] else [dB e.tag,64,49]) else [dB e.to]

def nodeL (f:Int) (M:St) (n:Nat) (r:Rec):List UInt8:=40 :: (midL f r ++ (unfL f M n r.lo ++ 32 :: (unfL f M n r.hi ++ [41])))

theorem digS_list (k:Int):(digS k).data.toList=[dB k]:=rfl

theorem unfL_leaf {f:Int} {M:St} {n:Nat} {e:Edge} (h0:0 ≤ e.to) (h:e.to < 2):unfL f M (n + 1) e=leafL f e:=by
 unfold unfL unfS leafL
 by_cases h5:f=5
 ·rw [if_pos h5,if_pos h5]
  by_cases hz:e.to=0
  ·rw [if_pos hz,if_pos hz]
  ·rw [if_neg hz,if_neg hz,if_pos (by omega)]
   simp [ByteArray.data_append,digS_list]
 ·rw [if_neg h5,if_neg h5,if_pos h]
  rfl

theorem unfL_node {f:Int} {M:St} {n:Nat} {e:Edge} {r:Rec} (h:look M.cs e.to=some r):unfL f M (n + 1) e=preL f e ++ nodeL f M n r:=by
 have h2:=(look_some h).1
 have hg:grec (look M.cs e.to)=r:=by rw [h];rfl
 unfold unfL unfS preL nodeL midL
 rw [hg]
 by_cases h5:f=5
 ·rw [if_pos h5,if_pos h5,if_neg (by omega),if_neg (by omega),if_neg (by omega)]
  simp [ByteArray.data_append,digS_list,unfL]
 ·rw [if_neg h5,if_neg h5,if_neg (by omega)]
  by_cases h34:f=3 ∨ f=4
  ·rw [if_pos h34,if_pos h34]
   simp [ByteArray.data_append,digS_list,unfL]
  ·rw [if_neg h34,if_neg h34]
   simp [ByteArray.data_append,digS_list,unfL]

structure Fine (f:Int) (M:St):Prop where
 wf:M.wf
 fit:∀ id r,look M.cs id=some r → 0 ≤ r.lo.to ∧ 0 ≤ r.hi.to
 n9:M.n ≤ 9

structure At (f:Int) (M:St) (e:Edge) (l:Int) (n:Nat):Prop where
 lead:M.leads f e l=true
 ok:0 ≤ e.to
 deep:M.n < l + n

theorem At.tag {f:Int} {M:St} {e:Edge} {l:Int} {n:Nat} (hM:Fine f M) (h:At f M e l n):0 ≤ e.tag ∧ e.tag < 10 ∧ (f ≠ 5 ∨ e.to=0 → e.tag=0) ∧ 0 ≤ l:=by
 obtain ⟨h1,_⟩:=leads_cases h.lead
 have h9:=hM.n9
 unfold plainB at h1
 split at h1
 ·cases h1
 ·rename_i hc
  simp only [Bool.or_eq_true,decide_eq_true_eq,not_or] at hc
  split at h1
  ·rename_i hc2
   have ht:e.tag=0:=by simpa using h1
   exact ⟨by omega,by omega,fun _=>ht,by omega⟩
  ·rename_i hc2
   simp only [Bool.or_eq_true,bne_iff_ne,ne_eq,beq_iff_eq,not_or,Decidable.not_not] at hc2
   simp only [Bool.and_eq_true,decide_eq_true_eq] at h1
   exact ⟨by omega,by omega,fun hh=>by rcases hh with hh | hh;exact absurd hc2.1 hh;exact absurd hh hc2.2,by omega⟩

theorem At.cases {f:Int} {M:St} {e:Edge} {l:Int} {n:Nat} (hM:Fine f M) (h:At f M e l (n + 1)) :
  (0 ≤ e.to ∧ e.to < 2) ∨ (∃ r,look M.cs e.to=some r ∧ r.form=f ∧ l ≤ r.top ∧ r.top ≤ r.bot ∧ r.bot < M.n ∧ 0 ≤ r.top ∧ r.top < 10 ∧ r.bot < 10 ∧ (r.top=r.bot ∨ f=3 ∨ f=4) ∧ At f M r.lo (r.bot + 1) n ∧ At f M r.hi (r.bot + 1) n):=by
 obtain ⟨h1,h2⟩:=leads_cases h.lead
 have h9:=hM.n9
 rcases h2 with h2 | ⟨r,hl,hf,ht,_⟩
 ·exact .inl ⟨h.ok,h2⟩
 ·right
  have g:=hM.wf.goodRec hl
  have hok:=hM.fit _ _ hl
  have:=g.tb
  have:=g.bn
  have hd:=h.deep
  have hl0:=(h.tag hM).2.2.2
  subst hf
  refine ⟨r,hl,rfl,ht,g.tb,g.bn,by omega,by omega,by omega,?_,⟨g.lo,hok.1,by push_cast at hd;omega⟩,⟨g.hi,hok.2,by push_cast at hd;omega⟩⟩
  rcases g.chain with hc | hc
  ·exact .inl hc
  ·unfold chainedB at hc
   simp only [Bool.or_eq_true,beq_iff_eq] at hc
   exact .inr hc

theorem At.pos {f:Int} {M:St} {e:Edge} {l:Int} {n:Nat} (hM:Fine f M) (h:At f M e l n):∃ m,n=m + 1:=by
 have h1:=(leads_cases h.lead).1
 have hd:=h.deep
 unfold plainB at h1
 split at h1
 ·cases h1
 ·rename_i hc
  simp only [Bool.or_eq_true,decide_eq_true_eq,not_or] at hc
  exact ⟨n - 1,by omega⟩

end Go.Proofs.YtiifimnpmbfihaaGreat
