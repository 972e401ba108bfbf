/-
  meter.scale over the state: what an edge weighs is the sum over its table.
-/
import Derived.Test.YtpgcbmbnognieaaGreatPScaleE
namespace Go.Proofs.YtpgcbmbnognieaaGreat
set_option linter.unusedSimpArgs false
set_option linter.unusedVariables false
set_option maxHeartbeats 600000
open Go.RowKit

variable {F:Nat → Prop} {cb sb mb n:Nat} {f:Int} {ls hs:List Int} {M:St} {w:World} {S:List Int}

def topN (M:St) (id:Int):Nat:=match look M.cs id with
 | some r=>r.top.toNat
 | none=>M.n.toNat

def nodeW (ls hs:List Int) (M:St) (f:Int) (id:Int):Nat:=(wE (wtF ls) (wtF hs) M f ⟨0,id⟩ (topN M id:Int)).toNat

theorem wE_to {lo hi:Nat → Int} (h:M.wf) {e e':Edge} {r:Rec} {t:Nat} (he:e.to=e'.to) (hk:look M.cs e.to=some r) (hf:r.form=f) (ht:(t:Int)=r.top):wE lo hi M f e (t:Int)=wE lo hi M f e' (t:Int):=by
 have g1:=(h.goodRec hk).tb
 obtain ⟨b,hb⟩:∃ b:Nat,(b:Int)=r.bot:=⟨r.bot.toNat,by omega⟩
 by_cases h3:f=3
 ·subst h3
  rw [wE_chain h hk hf ht hb,wE_chain h (he ▸ hk) hf ht hb]
 ·rw [wE_node h hk hf h3 ht hb,wE_node h (he ▸ hk) hf h3 ht hb]

theorem wE_small (hl:WordsOk B64 ls) (hh:WordsOk B64 hs) (M:St) (f:Int) (e:Edge) (l:Int) (hd:(M.n - l).toNat ≤ 8):0 ≤ wE (wtF ls) (wtF hs) M f e l ∧ (natW B64 (wE (wtF ls) (wtF hs) M f e l).toNat).length ≤ 9:=by
 have h0:=wE_nonneg (fun j=>(wtF_range hl j).1) (fun j=>(wtF_range hh j).1) M f e l
 have h1:=wE_le (fun j=>(wtF_range hl j).1) (fun j=>(wtF_range hh j).1) M f e l
 have h2:=prW_small (sideW_range hl hh true) l.toNat (M.n - l).toNat
 exact ⟨h0,small_words h0 (Int.le_trans h1 h2.2) hd⟩

theorem SumOut.mono {P:Int → Nat} {v cnt cnt':Nat} {W W':World} {e:Ending} (h:SumOut F P cb sb mb n f ls hs M S v cnt W e W') (hc:cnt ≤ cnt'):SumOut F P cb sb mb n f ls hs M S v cnt' W e W':=by
 obtain ⟨x,S',h1,h2,h3,h4,h5⟩:=h
 exact ⟨x,S',h1,h2,h3,by omega,h5⟩

theorem edge_value (h:M.wf) (hl:WordsOk B64 ls) (hh:WordsOk B64 hs) (hf:1 ≤ f ∧ f ≤ 5) {e:Edge} {l top c:Nat} (hlt:l ≤ top) (htn:(top:Int) ≤ M.n) (hz:e.to ≠ 0) (hld:M.leads f e (l:Int)=true) (hk:look M.cs e.to=none ∨ ∃ r,look M.cs e.to=some r ∧ (top:Int) ≤ r.top) (hc:(c:Int)=freeI f e (l:Int) (top:Int)) (ht:f=5 → e.tag ≤ (top:Int)) :
  l ≤ c ∧ c ≤ top ∧ (wE (wtF ls) (wtF hs) M f e (l:Int)).toNat=(prW (sideW ls hs true) l (c - l)).toNat * (prW (sideW ls hs false) c (top - c)).toNat * (wE (wtF ls) (wtF hs) M f e (top:Int)).toNat:=by
 have hp8:f=5 → (l:Int) ≤ e.tag ∧ e.tag ≤ (top:Int):=fun h5=>by
  have:=(plainB_iff.1 (leads_iff.1 hld).1).2.2.2.2.2.2.2 h5 hz
  exact ⟨this.1,ht h5⟩
 obtain ⟨h1,h2,h3⟩:=out_split (lo:=wtF ls) (hi:=wtF hs) hf hlt hc hp8
 have h4:=wE_skips (lo:=wtF ls) (hi:=wtF hs) h htn hk (top - l) l (by omega) (Weak.of hld)
 refine ⟨h1,h2,?_⟩
 have a1:=(prW_small (sideW_range hl hh true) l (c - l)).1
 have a2:=(prW_small (sideW_range hl hh false) c (top - c)).1
 have a3:=wE_nonneg (fun j=>(wtF_range hl j).1) (fun j=>(wtF_range hh j).1) M f e (top:Int)
 have e1:prW (sideW ls hs true) l (c - l)=prW (bothW (wtF ls) (wtF hs)) l (c - l):=rfl
 have e2:prW (sideW ls hs false) c (top - c)=prW (wtF ls) c (top - c):=rfl
 rw [h4,h3,← e1,← e2]
 obtain ⟨A,hA⟩:=Int.eq_ofNat_of_zero_le a1
 obtain ⟨B,hB⟩:=Int.eq_ofNat_of_zero_le a2
 obtain ⟨C,hC⟩:=Int.eq_ofNat_of_zero_le a3
 rw [hA,hB,hC,← Int.natCast_mul,← Int.natCast_mul,Int.toNat_natCast,Int.toNat_natCast,Int.toNat_natCast,Int.toNat_natCast]

theorem node_value (h:M.wf) (hl:WordsOk B64 ls) (hh:WordsOk B64 hs) {e:Edge} {r:Rec} {t b:Nat} (hk:look M.cs e.to=some r) (hf:r.form=f) (h3:f ≠ 3) (ht:(t:Int)=r.top) (hb:(b:Int)=r.bot) :
  (wE (wtF ls) (wtF hs) M f e (t:Int)).toNat=(prW (sideW ls hs true) t (b - t)).toNat * ((wtF ls b).toNat * (wE (wtF ls) (wtF hs) M f r.lo ((b + 1:Nat):Int)).toNat + (wtF hs b).toNat * (wE (wtF ls) (wtF hs) M f r.hi ((b + 1:Nat):Int)).toNat):=by
 have n0:=fun j=>(wtF_range hl j).1
 have n1:=fun j=>(wtF_range hh j).1
 have a1:=(prW_small (sideW_range hl hh true) t (b - t)).1
 have e1:prW (sideW ls hs true) t (b - t)=prW (bothW (wtF ls) (wtF hs)) t (b - t):=rfl
 rw [wE_node h hk hf h3 ht hb,← e1]
 obtain ⟨A,hA⟩:=Int.eq_ofNat_of_zero_le a1
 obtain ⟨p,hp⟩:=Int.eq_ofNat_of_zero_le (n0 b)
 obtain ⟨q,hq⟩:=Int.eq_ofNat_of_zero_le (n1 b)
 obtain ⟨X,hX⟩:=Int.eq_ofNat_of_zero_le (wE_nonneg n0 n1 M f r.lo ((b + 1:Nat):Int))
 obtain ⟨Y,hY⟩:=Int.eq_ofNat_of_zero_le (wE_nonneg n0 n1 M f r.hi ((b + 1:Nat):Int))
 rw [hA,hp,hq,hX,hY,← Int.natCast_mul,← Int.natCast_mul,← Int.natCast_add,← Int.natCast_mul]
 simp only [Int.toNat_natCast]

theorem chain_value (h:M.wf) (hl:WordsOk B64 ls) (hh:WordsOk B64 hs) {e:Edge} {r:Rec} {t b:Nat} (hk:look M.cs e.to=some r) (hf:r.form=f) (h3:f=3) (ht:(t:Int)=r.top) (hb:(b:Int)=r.bot) :
  (wE (wtF ls) (wtF hs) M f e (t:Int)).toNat=(prW (sideW ls hs false) t (b + 1 - t)).toNat * (wE (wtF ls) (wtF hs) M f r.lo ((b + 1:Nat):Int)).toNat + ((prW (sideW ls hs true) t (b + 1 - t)).toNat - (prW (sideW ls hs false) t (b + 1 - t)).toNat) * (wE (wtF ls) (wtF hs) M f r.hi ((b + 1:Nat):Int)).toNat:=by
 subst h3
 have n0:=fun j=>(wtF_range hl j).1
 have n1:=fun j=>(wtF_range hh j).1
 have a1:=(prW_small (sideW_range hl hh true) t (b + 1 - t)).1
 have a2:=(prW_small (sideW_range hl hh false) t (b + 1 - t)).1
 have hle:prW (sideW ls hs false) t (b + 1 - t) ≤ prW (sideW ls hs true) t (b + 1 - t):=prW_le (fun j=>n0 j) (fun j=>by
  have:=n1 j
  show wtF ls j ≤ wtF ls j + wtF hs j
  omega) t _
 have e1:prW (sideW ls hs true) t (b + 1 - t)=prW (bothW (wtF ls) (wtF hs)) t (b + 1 - t):=rfl
 have e2:prW (sideW ls hs false) t (b + 1 - t)=prW (wtF ls) t (b + 1 - t):=rfl
 rw [wE_chain h hk hf ht hb,← e1,← e2]
 obtain ⟨A,hA⟩:=Int.eq_ofNat_of_zero_le a1
 obtain ⟨B,hB⟩:=Int.eq_ofNat_of_zero_le a2
 obtain ⟨X,hX⟩:=Int.eq_ofNat_of_zero_le (wE_nonneg n0 n1 M 3 r.lo ((b + 1:Nat):Int))
 obtain ⟨Y,hY⟩:=Int.eq_ofNat_of_zero_le (wE_nonneg n0 n1 M 3 r.hi ((b + 1:Nat):Int))
 rw [hA,hB] at hle
 have hle2:B ≤ A:=by exact_mod_cast hle
 rw [hA,hB,hX,hY]
 rw [show ((A:Int) - (B:Int))=((A - B:Nat):Int) by omega,← Int.natCast_mul,← Int.natCast_mul,← Int.natCast_add]
 simp only [Int.toNat_natCast]

set_option maxHeartbeats 1000000 in
theorem sedge_all (hf:1 ≤ f ∧ f ≤ 5) (hok:∀ id r,look M.cs id=some r → r.ok) (hwf:M.wf):∀ (K l:Nat) (e:Edge) (w:World) (S:List Int),n - l ≤ K → l ≤ n → e.ok → M.leads f e (l:Int)=true → SCtx F (nodeW ls hs M f) cb sb mb n f ls hs M w S → S.length + 2 ^ (n - l) ≤ 100000 →
  Calls Tryz.prog 70 #[.pointer (some ⟨cb,0,none⟩),.agg #[.int .u8 e.tag,.int .u32 e.to],.int .i64 (l:Int)] w (SumOut F (nodeW ls hs M f) cb sb mb n f ls hs M S (wE (wtF ls) (wtF hs) M f e (l:Int)).toNat (2 ^ (n - l) - 1) w):=by
 intro K
 induction K with
 | zero=>
  intro l e w S hK hln he hld h hcap
  have hl:=h.sc.words.1
  have hh:=h.sc.words.2
  have hn:=h.hn
  have h8:=h.sc.small
  by_cases hz:e.to=0
  ·rw [wE_no hz]
   exact sedge_zero h e hz (l:Int) _
  ·have hnone:look M.cs e.to=none:=by
    rcases (leads_iff.1 hld).2 with h2 | ⟨r,a,b,c,d⟩
    ·exact look_low h2
    ·have:=(hwf.goodRec a).tb
     have:=(hwf.goodRec a).bn
     omega
   have hfr:∃ c:Nat,(c:Int)=freeI f e (l:Int) ((n:Nat):Int):=⟨(freeI f e (l:Int) (n:Int)).toNat,by
    have:0 ≤ freeI f e (l:Int) (n:Int):=by
     unfold freeI
     split
     ·omega
     ·split
      ·exact he.1.1
      ·omega
    omega⟩
   obtain ⟨c,hc⟩:=hfr
   obtain ⟨v1,v2,v3⟩:=edge_value hwf hl hh hf (top:=n) hln (by omega) hz hld (.inl hnone) hc (fun h5=>by
    have:=(plainB_iff.1 (leads_iff.1 hld).1).2.2.2.2.2.2.2 h5 hz
    omega)
   rw [wE_end hz hn] at v3
   rw [v3]
   refine sedge_some h e he hz hf l n c hln (Nat.le_refl _) hc v1 v2 _ 1 ?_ false Rec.zero Rec.zero_ok (fun W hW=>?_) (fun _=>⟨rfl,rfl⟩) (fun e=>by cases e)
   ·exact Nat.le_trans (natW_len (k:=1) b64_two (by decide)) (by decide)
   ·have:=store_get (h.rep.keeps hW) e.to he.2.2
    rw [hnone] at this
    exact this
 | succ K ih=>
  intro l e w S hK hln he hld h hcap
  have hl:=h.sc.words.1
  have hh:=h.sc.words.2
  have hn:=h.hn
  have h8:=h.sc.small
  by_cases hz:e.to=0
  ·rw [wE_no hz]
   exact sedge_zero h e hz (l:Int) _
  have hfr:∀ top:Nat,∃ c:Nat,(c:Int)=freeI f e (l:Int) (top:Int):=fun top=>⟨(freeI f e (l:Int) (top:Int)).toNat,by
    have:0 ≤ freeI f e (l:Int) (top:Int):=by
     unfold freeI
     split
     ·omega
     ·split
      ·exact he.1.1
      ·omega
    omega⟩
  cases hlk:look M.cs e.to with
  | none=>
   obtain ⟨c,hc⟩:=hfr n
   obtain ⟨v1,v2,v3⟩:=edge_value hwf hl hh hf (top:=n) hln (by omega) hz hld (.inl hlk) hc (fun h5=>by
    have:=(plainB_iff.1 (leads_iff.1 hld).1).2.2.2.2.2.2.2 h5 hz
    omega)
   rw [wE_end hz hn] at v3
   rw [v3]
   refine sedge_some h e he hz hf l n c hln (Nat.le_refl _) hc v1 v2 _ 1 ?_ false Rec.zero Rec.zero_ok (fun W hW=>?_) (fun _=>⟨rfl,rfl⟩) (fun e=>by cases e)
   ·exact Nat.le_trans (natW_len (k:=1) b64_two (by decide)) (by decide)
   ·have:=store_get (h.rep.keeps hW) e.to he.2.2
    rw [hlk] at this
    exact this
  | some r=>
   obtain ⟨rf,rt,rg⟩:=leads_some hld hlk
   have g:=hwf.goodRec hlk
   have g1:=g.tb
   have g2:=g.bn
   have rok:=hok _ _ hlk
   obtain ⟨t,ht⟩:∃ t:Nat,(t:Int)=r.top:=⟨r.top.toNat,by omega⟩
   obtain ⟨b,hb⟩:∃ b:Nat,(b:Int)=r.bot:=⟨r.bot.toNat,by omega⟩
   obtain ⟨c,hc⟩:=hfr t
   obtain ⟨v1,v2,v3⟩:=edge_value hwf hl hh hf (top:=t) (by omega) (by omega) hz hld (.inr ⟨r,hlk,by omega⟩) hc (fun h5=>by omega)
   have hX:=wE_small hl hh M f e (t:Int) (by omega)
   have hPn:nodeW ls hs M f e.to=(wE (wtF ls) (wtF hs) M f e (t:Int)).toNat:=by
    unfold nodeW topN
    rw [hlk]
    simp only []
    rw [show r.top.toNat=t by omega]
    rw [wE_to hwf (e:=⟨0,e.to⟩) (e':=e) rfl hlk rf ht]
   rw [v3]
   refine sedge_some h e he hz hf l t c (by omega) (by omega) hc v1 v2 _ _ hX.2 true r rok (fun W hW=>?_) (fun e=>by cases e) (fun _=>⟨ht.symm,fun W hW=>?_⟩)
   ·have:=store_get (h.rep.keeps hW) e.to he.2.2
    rw [hlk] at this
    exact this
   ·rw [← hPn]
    by_cases hin:e.to ∈ S
    ·exact snode_met hW e.to he.2.1 he.2.2 r hin _
    ·have hp1:2 ^ (n - b)=2 * 2 ^ (n - (b + 1)):=by
      rw [show n - b=(n - (b + 1)) + 1 by omega,Nat.pow_succ]
      omega
     have hp2:2 ^ (n - b) ≤ 2 ^ (n - l):=Nat.pow_le_pow_right (by decide) (by omega)
     have hp3:=Nat.two_pow_pos (n - (b + 1))
     have hX0:=wE_small hl hh M f r.lo ((b + 1:Nat):Int) (by omega)
     have hX1:=wE_small hl hh M f r.hi ((b + 1:Nat):Int) (by omega)
     have glo:=g.lo
     have ghi:=g.hi
     rw [rf,← hb] at glo ghi
     have i0:∀ (W:World) (S':List Int),SCtx F (nodeW ls hs M f) cb sb mb n f ls hs M W S' → S'.length ≤ S.length → Calls Tryz.prog 70 #[.pointer (some ⟨cb,0,none⟩),.agg #[.int .u8 r.lo.tag,.int .u32 r.lo.to],.int .i64 ((b:Int) + 1)] W (SumOut F (nodeW ls hs M f) cb sb mb n f ls hs M S' (wE (wtF ls) (wtF hs) M f r.lo ((b + 1:Nat):Int)).toNat (2 ^ (n - (b + 1)) - 1) W):=fun W S' hW hS'=>by
      have q:=ih (b + 1) r.lo W S' (by omega) (by omega) rok.lo (by push_cast;exact glo) hW (by omega)
      rw [show ((b + 1:Nat):Int)=(b:Int) + 1 by omega] at q ⊢
      exact q
     have i1:∀ (W:World) (S':List Int),SCtx F (nodeW ls hs M f) cb sb mb n f ls hs M W S' → S'.length ≤ S.length + (2 ^ (n - (b + 1)) - 1) → Calls Tryz.prog 70 #[.pointer (some ⟨cb,0,none⟩),.agg #[.int .u8 r.hi.tag,.int .u32 r.hi.to],.int .i64 ((b:Int) + 1)] W (SumOut F (nodeW ls hs M f) cb sb mb n f ls hs M S' (wE (wtF ls) (wtF hs) M f r.hi ((b + 1:Nat):Int)).toNat (2 ^ (n - (b + 1)) - 1) W):=fun W S' hW hS'=>by
      have q:=ih (b + 1) r.hi W S' (by omega) (by omega) rok.hi (by push_cast;exact ghi) hW (by omega)
      rw [show ((b + 1:Nat):Int)=(b:Int) + 1 by omega] at q ⊢
      exact q
     rw [show (#[.int .u8 r.form,.int .u8 r.top,.int .u8 r.bot,.int .u8 r.lo.tag,.int .u32 r.lo.to,.int .u8 r.hi.tag,.int .u32 r.hi.to]:Array Value)=#[.int .u8 f,.int .u8 (t:Int),.int .u8 (b:Int),.int .u8 r.lo.tag,.int .u32 r.lo.to,.int .u8 r.hi.tag,.int .u32 r.hi.to] by rw [rf,ht,hb]]
     by_cases h3:f=3
     ·have hPv:=hPn.trans (chain_value hwf hl hh hlk rf h3 ht hb)
      exact (snode_three hW e.to he.2.1 he.2.2 t b r.lo r.hi rok.lo rok.hi (by omega) (by omega) hin _ (by omega) _ _ hX0.2 hX1.2 h3 hPv i0 i1).mono (fun _ _ hh2=>hh2.mono (by omega))
     ·have hPv:=hPn.trans (node_value hwf hl hh hlk rf h3 ht hb)
      exact (snode_new hW e.to he.2.1 he.2.2 t b r.lo r.hi rok.lo rok.hi (by omega) (by omega) hin _ (by omega) _ _ hX0.2 hX1.2 (by omega) hPv i0 i1).mono (fun _ _ hh2=>hh2.mono (by omega))

theorem mmay_calls {F:Nat → Prop} {w:World} {sb:Nat} {M:St} (h:StoreRep F w sb M) (f:Int) (v:Edge) (hv:v.ok) :
  Calls Tryz.prog 66 #[.pointer (some ⟨sb,0,none⟩),.int .u8 f,.agg #[.int .u8 v.tag,.int .u32 v.to]] w fun e w'=>e=.returned (.int .u8 (mayC M f v 0)) ∧ Keeps w w':=by
 have HS:=Lib.hid (fun (W:World) (hW:Keeps w W)=>csize_calls (h.keeps hW) f v 0 hv)
 obtain ⟨c,hc⟩:∃ c,c=mayC M f v 0:=⟨_,rfl⟩
 rw [← hc] at HS ⊢
 clear h hc
 go_enter Tryz.func66,Tryz.ntmps66
 go_wp2_with (first | (go_at_call 53;refine (HS.out _ (by (exact kp))).mono ?_;rintro e w1 ⟨rfl,hk1⟩) | fail)
 all_goals go_ret
 all_goals exact ⟨rfl,by (exact kp)⟩

theorem mayC_zero {M:St} {f:Int} {v:Edge} (h:mayC M f v 0=0):(1 ≤ f ∧ f ≤ 5) ∧ M.leads f v 0=true:=by
 unfold mayC at h
 split at h
 ·cases h
 ·rename_i hb
  split at h
  ·cases h
  ·split at h
   ·cases h
   ·rename_i hl
    refine ⟨?_,by simpa using hl⟩
    have:isFormB f=true:=by simpa using hb
    unfold isFormB at this
    simpa using this

def weighC (M:St) (f:Int) (v:Edge) (l1 l2:Nat):Int:=if mayC M f v 0 ≠ 0 then mayC M f v 0 else if M.n ≠ (l1:Int) ∨ M.n ≠ (l2:Int) then 1 else 0

set_option maxRecDepth 100000 in
theorem weigh_no {F:Nat → Prop} {w:World} {sb:Nat} {M:St} (h:StoreRep F w sb M) (f:Int) (v:Edge) (hv:v.ok) (a b:Option Addr) (l1 c1 l2 c2:Nat) (hc:weighC M f v l1 l2 ≠ 0) (hl:l1 ≤ 1000 ∧ l2 ≤ 1000) :
  Calls Tryz.prog 13 #[.pointer (some ⟨sb,0,none⟩),.int .u8 f,.agg #[.int .u8 v.tag,.int .u32 v.to],.slice a l1 c1,.slice b l2 c2] w fun e w'=>e=.returned (.tuple #[.slice none 0 0,.int .u8 (weighC M f v l1 l2)]) ∧ Keeps w w':=by
 have HM:=Lib.hid (fun (W:World) (hW:Keeps w W)=>mmay_calls (h.keeps hW) f v hv)
 have HV:=Lib.hid (fun (W:World) (hW:Keeps w W)=>store_vars (h.keeps hW))
 have hr:=mayC_range M f v 0
 unfold weighC at hc ⊢
 obtain ⟨hl1,hl2⟩:=hl
 by_cases c0:mayC M f v 0=0
 ·rw [if_neg (by simp [c0])] at hc ⊢
  have hne:M.n ≠ (l1:Int) ∨ M.n ≠ (l2:Int):=by
   by_cases hh:M.n ≠ (l1:Int) ∨ M.n ≠ (l2:Int)
   ·exact hh
   ·rw [if_neg hh] at hc;exact absurd rfl hc
  rw [if_pos hne]
  rw [c0] at HM
  obtain ⟨n,hn⟩:∃ n,n=M.n:=⟨_,rfl⟩
  rw [← hn] at HV hne
  clear h hc hr c0 hn
  by_cases h1:n=(l1:Int)
  ·have h2:((l2:Int) == n)=false:=by
    simp
    rcases hne with h | h
    ·exact absurd h1 h
    ·exact fun e=>h e.symm
   subst h1
   have h1':((l1:Int) == (l1:Int))=true:=by simp
   clear hne
   go_enter Tryz.func13,Tryz.ntmps13
   go_wp2_with (first
    | (go_at_call 66;refine (HM.out _ (by (exact kp))).mono ?_;rintro e w1 ⟨rfl,hk1⟩;have kk1:Keeps w w1:=(by (exact kp)))
    | (go_at_call 67;refine (HV.out _ (by (exact kp))).mono ?_;rintro e w2 ⟨rfl,rfl⟩)
    | fail)
   go_ret2
   exact ⟨rfl,kk1⟩
  ·have h1':((l1:Int) == n)=false:=by
    simp
    exact fun e=>h1 e.symm
   clear hne h1
   go_enter Tryz.func13,Tryz.ntmps13
   go_wp2_with (first
    | (go_at_call 66;refine (HM.out _ (by (exact kp))).mono ?_;rintro e w1 ⟨rfl,hk1⟩;have kk1:Keeps w w1:=(by (exact kp)))
    | (go_at_call 67;refine (HV.out _ (by (exact kp))).mono ?_;rintro e w2 ⟨rfl,rfl⟩)
    | fail)
   go_ret2
   exact ⟨rfl,kk1⟩
 ·rw [if_pos c0]
  obtain ⟨c,hc2⟩:∃ c,c=mayC M f v 0:=⟨_,rfl⟩
  rw [← hc2] at HM c0 hr ⊢
  have g0:(c == 0)=false:=by simp [c0]
  clear h hc hc2 c0
  go_enter Tryz.func13,Tryz.ntmps13
  go_wp2_with (first
   | (go_at_call 66;refine (HM.out _ (by (exact kp))).mono ?_;rintro e w1 ⟨rfl,hk1⟩;have kk1:Keeps w w1:=(by (exact kp)))
   | fail)
  go_ret2
  exact ⟨rfl,kk1⟩

set_option maxRecDepth 100000 in
set_option maxHeartbeats 800000 in
theorem weigh_calls {F:Nat → Prop} {w:World} {sb:Nat} {M:St} (h:StoreRep F w sb M) (f:Int) (v:Edge) (hv:v.ok) (a b:Option Addr) (n c1 c2:Nat) (ls hs:List Int) (hn:M.n=(n:Int)) (h8:n ≤ 8) (hl:ls.length=n) (hh:hs.length=n) (hla:WordsAt w a ls) (hhb:WordsAt w b hs) (hm:mayC M f v 0=0) :
  Calls Tryz.prog 13 #[.pointer (some ⟨sb,0,none⟩),.int .u8 f,.agg #[.int .u8 v.tag,.int .u32 v.to],.slice a n c1,.slice b n c2] w fun e w'=>(∃ x,e=.returned (.tuple #[x,.int .u8 0]) ∧ NatV 0 w' (wE (wtF ls) (wtF hs) M f v 0).toNat x) ∧ Keeps w w':=by
 obtain ⟨hf,hld⟩:=mayC_zero hm
 have HM:=Lib.hid (fun (W:World) (hW:Keeps w W)=>mmay_calls (h.keeps hW) f v hv)
 rw [hm] at HM
 have HV:=Lib.hid (fun (W:World) (hW:Keeps w W)=>store_vars (h.keeps hW))
 rw [hn] at HV
 have hwl:=wE_small (words_ok hla) (words_ok hhb) M f v 0 (by omega)
 have HN0:=Lib.hid (fun (W:World) (hW:Keeps w W)=>by
  have:=numbers_calls a c1 ls W (hla.keeps hW) (by omega)
  rw [hl] at this
  exact this)
 have HN1:=Lib.hid (fun (W:World) (hW:Keeps w W)=>by
  have:=numbers_calls b c2 hs W (hhb.keeps hW) (by omega)
  rw [hh] at this
  exact this)
 have hp8:2 ^ n ≤ 2 ^ 8:=Nat.pow_le_pow_right (by decide) h8
 have hp8':(2:Nat) ^ 8=256:=rfl
 have HE:=Lib.hid (fun (W:World) (cb mb:Nat) (hC:SCtx F (nodeW ls hs M f) cb sb mb n f ls hs M W [])=>sedge_all hf (fun id r hk=>h.fit hk) h.wf n 0 v W [] (by omega) (Nat.zero_le _) hv hld hC (by simp;omega))
 have H:=Lib.hid h
 have HW:=Lib.hid hwl
 have HLL:=Lib.hid (And.intro hl hh)
 have HOK:=Lib.hid (And.intro (words_ok hla) (words_ok hhb))
 have HMN:=Lib.hid hn
 have hmm:=@run_makeMap Tryz.prog
 have hnn:((n:Int) == (n:Int))=true:=by simp
 obtain ⟨V,hVe⟩:∃ V,V=(wE (wtF ls) (wtF hs) M f v 0).toNat:=⟨_,rfl⟩
 have HVE:=Lib.hid hVe
 clear h hwl hl hh hn hla hhb hm hld hf hp8 hp8' hVe
 go_enter Tryz.func13,Tryz.ntmps13
 go_wp2_with (first
  | (go_at_call 66;refine (HM.out _ (by (exact kp))).mono ?_;rintro e w1 ⟨rfl,hk1⟩;have z0:=hk1.cell (a:=⟨w.heap.size,0,none⟩) (v:=.int .u8 v.tag) (by simp [go_sem]);have z1:=hk1.cell (a:=⟨w.heap.size,1,none⟩) (v:=.int .u32 v.to) (by simp [go_sem]);have kk1:Keeps w w1:=(by (exact kp)))
  | (go_at_call 67;refine (HV.out _ (by (exact kp))).mono ?_;rintro e w2 ⟨rfl,rfl⟩)
  | (go_at_call 68;have qq:=HN0;clear qq;refine (HN0.out _ (by (exact kp))).mono ?_;rintro e w3 ⟨⟨A3,rfl,hn3⟩,hk3⟩;have HA3:=Lib.hid hn3;have z0:=hk3.cell z0;have z1:=hk3.cell z1;clear HN0 hn3)
  | (go_at_call 68;refine (HN1.out _ (by (exact kp))).mono ?_;rintro e w4 ⟨⟨A4,rfl,hn4⟩,hk4⟩;have HA4:=Lib.hid hn4;have z0:=hk4.cell z0;have z1:=hk4.cell z1;have hwl4:=lt_of_cell z0;clear hn4)
  | fail)
 have kk4:Keeps w w4:=(kk1.trans hk3).trans hk4
 have hkc:Keeps w4 ((w4.alloc (.map #[] 0)).alloc (.cells #[.pointer (some ⟨sb,0,none⟩),.int .u8 f,.slice A3 n n,.slice A4 n n,.map (some w4.heap.size)] 133)):=((Keeps.refl _).alloc _).alloc _
 have hC:SCtx F (nodeW ls hs M f) (w4.heap.size + 1) sb w4.heap.size n f ls hs M ((w4.alloc (.map #[] 0)).alloc (.cells #[.pointer (some ⟨sb,0,none⟩),.int .u8 f,.slice A3 n n,.slice A4 n n,.map (some w4.heap.size)] 133)) []:=by
  refine ⟨H.out.keeps (kk4.trans hkc),⟨by simp [go_sem],by simp [go_sem],⟨A3,n,by simp [go_sem],(HA3.out.keeps hk4).keeps hkc⟩,⟨A4,n,by simp [go_sem],HA4.out.keeps hkc⟩,by simp [go_sem],HLL.out,h8,HOK.out⟩,⟨.map [],?_,Maps.isMap_empty,fun x=>by simp [Maps.has_eq],fun x hx=>by simp at hx⟩,fun hh=>by have:=H.out.lt _ hh;have:=kk4.size;omega,HMN.out⟩
  have:=(World.ownsMap_made (H:=Value) w4 Tryz.prog 23 heldElem).alloc (.cells #[.pointer (some ⟨sb,0,none⟩),.int .u8 f,.slice A3 n n,.slice A4 n n,.map (some w4.heap.size)] 133)
  simpa using this
 have hcall:=HE.out _ _ _ hC
 rw [show ((0:Nat):Int)=0 from rfl,← HVE.out] at hcall
 have HCALL:=Lib.hid hcall
 have k4c:=kk4.trans hkc
 clear hC hcall
 refine HCALL.out.mono ?_
 rintro e w5 ⟨x,S5,rfl,hx,hc5,-,hu5⟩
 have kk5:Keeps w w5:=k4c.new hu5 (fun k hk=>by have:=kk4.size;omega)
 have hNo:=normV_calls hx (by have:=HW.out.2;rw [← HVE.out] at this;omega)
 have HNO:=Lib.hid hNo
 clear hx hc5 hu5 hNo HCALL
 go_wp2_with (first | (go_at_call 69;refine HNO.out.mono ?_;rintro e w6 ⟨y,rfl,hy,hk6⟩) | fail)
 have hyV:NatV 0 w6 (wE (wtF ls) (wtF hs) M f v 0).toNat y:=by rw [← HVE.out];exact hy.le (Nat.zero_le _)
 go_ret2
 exact ⟨⟨y,rfl,hyV⟩,kk5.trans hk6⟩

end Go.Proofs.YtpgcbmbnognieaaGreat
