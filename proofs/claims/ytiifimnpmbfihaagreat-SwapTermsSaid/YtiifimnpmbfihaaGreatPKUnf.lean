/-
  law17.Unfold and ramageref17.Term of any form (printed by wip/mk_kunf.py).
-/
import Derived.Test.YtiifimnpmbfihaaGreatPTwoA
import Derived.Test.YtiifimnpmbfihaaGreatPUnfA
namespace Go.Proofs.YtiifimnpmbfihaaGreat
set_option linter.unusedSimpArgs false
set_option linter.unusedVariables false
set_option maxHeartbeats 600000
open Go.RowKit

def termK (f:Int) (k:Nat) (ts:List Bool) (l:Int):ByteArray:=
 if f=1 then termB k ts l else if f=2 then termZ k ts l else if f=3 then termC (k + 1) k ts l else if f=4 then termQ (k + 1) k ts l else termT (k + 1) k ts l

theorem form_cases {f:Int} (hf:1 ≤ f ∧ f ≤ 5):f=1 ∨ f=2 ∨ f=3 ∨ f=4 ∨ f=5:=by omega

theorem twoK {f:Int} {M:St} (hw:M.wf) (hf:1 ≤ f ∧ f ≤ 5) {k:Nat} {ts:List Bool} {l:Int} {e:Edge} (h:IsT f M k ts l e) (hl:l + (k:Nat)=M.n) (h0:0 ≤ l) (m:Nat) (hm:k ≤ m):unfS f M (m + 1) e=termK f k ts l:=by
 rcases form_cases hf with rfl | rfl | rfl | rfl | rfl
 ·exact two1 hw k ts l e h m hm
 ·exact two2 k ts l e h m hm
 ·exact two3 hw k ts l e h hl m k hm (Nat.le_refl _)
 ·exact two4 hw k ts l e h hl m k hm (Nat.le_refl _)
 ·exact two5 hw k ts l e h hl h0 m k hm (Nat.le_refl _)

set_option maxRecDepth 100000 in
theorem kunf_B (sb:Nat) (e:Edge) (d:Int) (x:ByteArray) (w:World) (hc:∀ W,Keeps w W → Calls Tryz.prog 201 #[.pointer (some ⟨sb,0,none⟩),.agg #[.int .u8 e.tag,.int .u32 e.to],.int .i64 d] W fun r w'=>r=.returned (.string x) ∧ Keeps W w') :
  Calls Tryz.prog 124 #[.pointer (some ⟨sb,0,none⟩),.int .u8 1,.agg #[.int .u8 e.tag,.int .u32 e.to],.int .i64 d] w fun r w'=>r=.returned (.string x) ∧ Keeps w w':=by
 have H:=Lib.hid hc
 clear hc
 go_enter Tryz.func124,Tryz.ntmps124
 go_wp2_with (first | (go_at_call 201;refine (H.out _ (by (exact kp))).mono ?_;rintro r w1 ⟨rfl,hk⟩) | fail)
 go_ret
 exact ⟨rfl,by (exact kp)⟩

set_option maxRecDepth 100000 in
theorem kterm_B (B off p cap:Nat) (l:Int) (x:ByteArray) (w:World) (hc:∀ W,Keeps w W → Calls Tryz.prog 206 #[.slice (some ⟨B,off,none⟩) p cap,.int .i64 l] W fun r w'=>r=.returned (.string x) ∧ Keeps W w') :
  Calls Tryz.prog 126 #[.int .u8 1,.slice (some ⟨B,off,none⟩) p cap,.int .i64 l] w fun r w'=>r=.returned (.string x) ∧ Keeps w w':=by
 have H:=Lib.hid hc
 clear hc
 go_enter Tryz.func126,Tryz.ntmps126
 go_wp2_with (first | (go_at_call 206;refine (H.out _ (by (exact kp))).mono ?_;rintro r w1 ⟨rfl,hk⟩) | fail)
 go_ret
 exact ⟨rfl,by (exact kp)⟩

set_option maxRecDepth 100000 in
theorem kunf_Z (sb:Nat) (e:Edge) (d:Int) (x:ByteArray) (w:World) (hc:∀ W,Keeps w W → Calls Tryz.prog 202 #[.pointer (some ⟨sb,0,none⟩),.agg #[.int .u8 e.tag,.int .u32 e.to],.int .i64 d] W fun r w'=>r=.returned (.string x) ∧ Keeps W w') :
  Calls Tryz.prog 124 #[.pointer (some ⟨sb,0,none⟩),.int .u8 2,.agg #[.int .u8 e.tag,.int .u32 e.to],.int .i64 d] w fun r w'=>r=.returned (.string x) ∧ Keeps w w':=by
 have H:=Lib.hid hc
 clear hc
 go_enter Tryz.func124,Tryz.ntmps124
 go_wp2_with (first | (go_at_call 202;refine (H.out _ (by (exact kp))).mono ?_;rintro r w1 ⟨rfl,hk⟩) | fail)
 go_ret
 exact ⟨rfl,by (exact kp)⟩

set_option maxRecDepth 100000 in
theorem kterm_Z (B off p cap:Nat) (l:Int) (x:ByteArray) (w:World) (hc:∀ W,Keeps w W → Calls Tryz.prog 207 #[.slice (some ⟨B,off,none⟩) p cap,.int .i64 l] W fun r w'=>r=.returned (.string x) ∧ Keeps W w') :
  Calls Tryz.prog 126 #[.int .u8 2,.slice (some ⟨B,off,none⟩) p cap,.int .i64 l] w fun r w'=>r=.returned (.string x) ∧ Keeps w w':=by
 have H:=Lib.hid hc
 clear hc
 go_enter Tryz.func126,Tryz.ntmps126
 go_wp2_with (first | (go_at_call 207;refine (H.out _ (by (exact kp))).mono ?_;rintro r w1 ⟨rfl,hk⟩) | fail)
 go_ret
 exact ⟨rfl,by (exact kp)⟩

set_option maxRecDepth 100000 in
theorem kunf_C (sb:Nat) (e:Edge) (d:Int) (x:ByteArray) (w:World) (hc:∀ W,Keeps w W → Calls Tryz.prog 203 #[.pointer (some ⟨sb,0,none⟩),.agg #[.int .u8 e.tag,.int .u32 e.to],.int .i64 d] W fun r w'=>r=.returned (.string x) ∧ Keeps W w') :
  Calls Tryz.prog 124 #[.pointer (some ⟨sb,0,none⟩),.int .u8 3,.agg #[.int .u8 e.tag,.int .u32 e.to],.int .i64 d] w fun r w'=>r=.returned (.string x) ∧ Keeps w w':=by
 have H:=Lib.hid hc
 clear hc
 go_enter Tryz.func124,Tryz.ntmps124
 go_wp2_with (first | (go_at_call 203;refine (H.out _ (by (exact kp))).mono ?_;rintro r w1 ⟨rfl,hk⟩) | fail)
 go_ret
 exact ⟨rfl,by (exact kp)⟩

set_option maxRecDepth 100000 in
theorem kterm_C (B off p cap:Nat) (l:Int) (x:ByteArray) (w:World) (hc:∀ W,Keeps w W → Calls Tryz.prog 208 #[.slice (some ⟨B,off,none⟩) p cap,.int .i64 l] W fun r w'=>r=.returned (.string x) ∧ Keeps W w') :
  Calls Tryz.prog 126 #[.int .u8 3,.slice (some ⟨B,off,none⟩) p cap,.int .i64 l] w fun r w'=>r=.returned (.string x) ∧ Keeps w w':=by
 have H:=Lib.hid hc
 clear hc
 go_enter Tryz.func126,Tryz.ntmps126
 go_wp2_with (first | (go_at_call 208;refine (H.out _ (by (exact kp))).mono ?_;rintro r w1 ⟨rfl,hk⟩) | fail)
 go_ret
 exact ⟨rfl,by (exact kp)⟩

set_option maxRecDepth 100000 in
theorem kunf_Q (sb:Nat) (e:Edge) (d:Int) (x:ByteArray) (w:World) (hc:∀ W,Keeps w W → Calls Tryz.prog 204 #[.pointer (some ⟨sb,0,none⟩),.agg #[.int .u8 e.tag,.int .u32 e.to],.int .i64 d] W fun r w'=>r=.returned (.string x) ∧ Keeps W w') :
  Calls Tryz.prog 124 #[.pointer (some ⟨sb,0,none⟩),.int .u8 4,.agg #[.int .u8 e.tag,.int .u32 e.to],.int .i64 d] w fun r w'=>r=.returned (.string x) ∧ Keeps w w':=by
 have H:=Lib.hid hc
 clear hc
 go_enter Tryz.func124,Tryz.ntmps124
 go_wp2_with (first | (go_at_call 204;refine (H.out _ (by (exact kp))).mono ?_;rintro r w1 ⟨rfl,hk⟩) | fail)
 go_ret
 exact ⟨rfl,by (exact kp)⟩

set_option maxRecDepth 100000 in
theorem kterm_Q (B off p cap:Nat) (l:Int) (x:ByteArray) (w:World) (hc:∀ W,Keeps w W → Calls Tryz.prog 209 #[.slice (some ⟨B,off,none⟩) p cap,.int .i64 l] W fun r w'=>r=.returned (.string x) ∧ Keeps W w') :
  Calls Tryz.prog 126 #[.int .u8 4,.slice (some ⟨B,off,none⟩) p cap,.int .i64 l] w fun r w'=>r=.returned (.string x) ∧ Keeps w w':=by
 have H:=Lib.hid hc
 clear hc
 go_enter Tryz.func126,Tryz.ntmps126
 go_wp2_with (first | (go_at_call 209;refine (H.out _ (by (exact kp))).mono ?_;rintro r w1 ⟨rfl,hk⟩) | fail)
 go_ret
 exact ⟨rfl,by (exact kp)⟩

set_option maxRecDepth 100000 in
theorem kunf_T (sb:Nat) (e:Edge) (d:Int) (x:ByteArray) (w:World) (hc:∀ W,Keeps w W → Calls Tryz.prog 205 #[.pointer (some ⟨sb,0,none⟩),.agg #[.int .u8 e.tag,.int .u32 e.to],.int .i64 d] W fun r w'=>r=.returned (.string x) ∧ Keeps W w') :
  Calls Tryz.prog 124 #[.pointer (some ⟨sb,0,none⟩),.int .u8 5,.agg #[.int .u8 e.tag,.int .u32 e.to],.int .i64 d] w fun r w'=>r=.returned (.string x) ∧ Keeps w w':=by
 have H:=Lib.hid hc
 clear hc
 go_enter Tryz.func124,Tryz.ntmps124
 go_wp2_with (first | (go_at_call 205;refine (H.out _ (by (exact kp))).mono ?_;rintro r w1 ⟨rfl,hk⟩) | fail)
 go_ret
 exact ⟨rfl,by (exact kp)⟩

set_option maxRecDepth 100000 in
theorem kterm_T (B off p cap:Nat) (l:Int) (x:ByteArray) (w:World) (hc:∀ W,Keeps w W → Calls Tryz.prog 210 #[.slice (some ⟨B,off,none⟩) p cap,.int .i64 l] W fun r w'=>r=.returned (.string x) ∧ Keeps W w') :
  Calls Tryz.prog 126 #[.int .u8 5,.slice (some ⟨B,off,none⟩) p cap,.int .i64 l] w fun r w'=>r=.returned (.string x) ∧ Keeps w w':=by
 have H:=Lib.hid hc
 clear hc
 go_enter Tryz.func126,Tryz.ntmps126
 go_wp2_with (first | (go_at_call 210;refine (H.out _ (by (exact kp))).mono ?_;rintro r w1 ⟨rfl,hk⟩) | fail)
 go_ret
 exact ⟨rfl,by (exact kp)⟩

theorem unfK_calls {F:Nat → Prop} {w:World} {sb:Nat} {M:St} (h:StoreRep F w sb M) (hn9:M.n ≤ 9) (f:Int) (hf:1 ≤ f ∧ f ≤ 5) (n:Nat) (hn:n ≤ 20) (e:Edge) (he:e.ok) (ht:e.tag < 10) :
  Calls Tryz.prog 124 #[.pointer (some ⟨sb,0,none⟩),.int .u8 f,.agg #[.int .u8 e.tag,.int .u32 e.to],.int .i64 ((n:Int) - 1)] w fun r w'=>r=.returned (.string (unfS f M n e)) ∧ Keeps w w':=by
 rcases form_cases hf with rfl | rfl | rfl | rfl | rfl
 ·exact kunf_B sb e _ _ w (fun W hW=>unfB_calls (h.keeps hW) hn9 n hn e W (Keeps.refl _) he)
 ·exact kunf_Z sb e _ _ w (fun W hW=>unfZ_calls (h.keeps hW) hn9 n hn e W (Keeps.refl _) he)
 ·exact kunf_C sb e _ _ w (fun W hW=>unfC_calls (h.keeps hW) hn9 n hn e W (Keeps.refl _) he)
 ·exact kunf_Q sb e _ _ w (fun W hW=>unfQ_calls (h.keeps hW) hn9 n hn e W (Keeps.refl _) he)
 ·exact kunf_T sb e _ _ w (fun W hW=>unfT_calls (h.keeps hW) hn9 n hn e W (Keeps.refl _) he ht)

theorem termK_calls {B:Nat} (f:Int) (hf:1 ≤ f ∧ f ≤ 5) (k:Nat) (hk:k ≤ 9) (off cap:Nat) (ts:List Bool) (l:Int) (w:World) (h:TabAt w B off ts) (hl:ts.length=2 ^ k) (hc:2 ^ k ≤ cap) (hc2:cap ≤ 4096) (h0:0 ≤ l) (h9:l + (k:Nat) < 10) :
  Calls Tryz.prog 126 #[.int .u8 f,.slice (some ⟨B,off,none⟩) (2 ^ k) cap,.int .i64 l] w fun e w'=>e=.returned (.string (termK f k ts l)) ∧ Keeps w w':=by
 rcases form_cases hf with rfl | rfl | rfl | rfl | rfl
 ·exact kterm_B B off _ cap l _ w (fun W hW=>termB_calls k hk off cap ts l W (h.keeps hW) hl hc hc2 h0 (by omega))
 ·exact kterm_Z B off _ cap l _ w (fun W hW=>termZ_calls k hk off cap ts l W (h.keeps hW) hl hc hc2 h0 (by omega))
 ·exact kterm_C B off _ cap l _ w (fun W hW=>termC_calls (k + 1) (by omega) k (by omega) hk off cap ts l W (h.keeps hW) hl hc hc2 h0 (by omega))
 ·exact kterm_Q B off _ cap l _ w (fun W hW=>termQ_calls (k + 1) (by omega) k (by omega) hk off cap ts l W (h.keeps hW) hl hc hc2 h0 (by omega))
 ·exact kterm_T B off _ cap l _ w (fun W hW=>termT_calls (k + 1) (by omega) k (by omega) hk off cap ts l W (h.keeps hW) hl hc hc2 h0 (by omega))

end Go.Proofs.YtiifimnpmbfihaaGreat
