/-
  What View does, over the state (printed by wip/mk_vstore.py).
-/
import Derived.Test.YtpgcbmbnognieaaGreatPOrderN
import Derived.Test.YtpgcbmbnognieaaGreatPTMakeA
namespace Go.Proofs.YtpgcbmbnognieaaGreat
set_option linter.unusedSimpArgs false
set_option linter.unusedVariables false
set_option maxHeartbeats 600000
open Go.RowKit

theorem leads_some {M:St} {f:Int} {e:Edge} {l:Int} (h:M.leads f e l=true) {r:Rec} (hl:look M.cs e.to=some r):r.form=f ∧ l ≤ r.top ∧ e.tag ≤ r.top:=by
 have h2:=(look_some hl).1
 unfold St.leads at h
 rw [hl,decide_eq_false (show ¬ e.to < 2 by omega)] at h
 simp at h
 exact ⟨h.2.1.1,h.2.1.2,h.2.2⟩

def vOut (f l:Int) (e:Edge):Edge × Edge × Int:=
 if f=1 ∨ f=3 then (e,e,0) else if f=5 then (⟨l + 1,e.to⟩,⟨0,0⟩,0) else (e,⟨0,0⟩,0)

def viewAct (M:St) (f:Int) (e:Edge) (l:Int):(Edge × Edge × Int) ⊕ Rec:=
 if l < 0 ∨ M.n ≤ l then .inl (⟨0,0⟩,⟨0,0⟩,3)
 else if M.leads f e l=false then .inl (⟨0,0⟩,⟨0,0⟩,1)
 else if f=5 ∧ (e.to=0 ∨ l < e.tag) then .inl (e,e,0)
 else match look M.cs e.to with
  | none=>.inl (vOut f l e)
  | some r=>if l < r.top then .inl (vOut f l e) else if (f=3 ∨ f=4) ∧ r.bot ≠ r.top then .inr ⟨r.form,r.top + 1,r.bot,r.lo,r.hi⟩ else .inl (r.lo,r.hi,0)

theorem foundE_ok {M:St} {t:Int} {r:Rec} (h:M.findErr r=0):foundE M t r=⟨t,M.findId r⟩:=if_pos h

theorem RefRep.node {F:Nat → Prop} {w:World} {mb:Nat} {M:St} {L:List (Int × Rec)} (h:RefRep F w mb M L) {id:Int} {r:Rec} {D:Nat} (hD:L[D]?=some (id,r)) :
  ∃ lb cap,w.cell? ⟨mb,0,none⟩=some (.slice (some ⟨lb,0,none⟩) L.length cap) ∧ D < L.length ∧ L.length ≤ 1048576 ∧
   w.cell? ⟨lb,D * 8 + 1,none⟩=some (.int .u8 r.form) ∧ w.cell? ⟨lb,D * 8 + 2,none⟩=some (.int .u8 r.top) ∧ w.cell? ⟨lb,D * 8 + 3,none⟩=some (.int .u8 r.bot) ∧ w.cell? ⟨lb,D * 8 + 4,none⟩=some (.int .u8 r.lo.tag) ∧
   w.cell? ⟨lb,D * 8 + 5,none⟩=some (.int .u32 r.lo.to) ∧ w.cell? ⟨lb,D * 8 + 6,none⟩=some (.int .u8 r.hi.tag) ∧ w.cell? ⟨lb,D * 8 + 7,none⟩=some (.int .u32 r.hi.to):=by
 have hl:=(List.getElem?_eq_some_iff.1 hD).1
 obtain ⟨a,cap,c0,hc⟩:=h.cell
 obtain ⟨lb,rfl,_,hv⟩:=hc (by omega)
 have g:=fun j (hj:j < 8)=>hv D _ hD j hj
 exact ⟨lb,cap,c0,hl,h.le,(g 1 (by omega)).trans rfl,(g 2 (by omega)).trans rfl,(g 3 (by omega)).trans rfl,(g 4 (by omega)).trans rfl,(g 5 (by omega)).trans rfl,(g 6 (by omega)).trans rfl,(g 7 (by omega)).trans rfl⟩

theorem cbdd_found0 {F:Nat → Prop} {w:World} {sb:Nat} {M:St} (h:StoreRep F w sb M) (r:Rec) (hr:r.ok) :
  Calls Tryz.prog 229 #[.pointer (some ⟨sb,0,none⟩),.agg #[.int .u8 r.form,.int .u8 r.top,.int .u8 r.bot,.int .u8 r.lo.tag,.int .u32 r.lo.to,.int .u8 r.hi.tag,.int .u32 r.hi.to]] w fun e w'=>e=.returned (.tuple #[.agg #[.int .u8 (foundE M 0 r).tag,.int .u32 (foundE M 0 r).to],.int .u8 (M.findErr r)]) ∧ Upd F w w' ∧ StoreRep (Grow F w w') w' sb (M.findSt r):=by
 have hf:=fun (W:World) (hW:Keeps w W)=>store_find (h.keeps hW) r hr
 by_cases he:M.findErr r=0
 ·have e1:foundE M 0 r=⟨0,M.findId r⟩:=if_pos he
  rw [e1,he]
  rw [he] at hf
  refine (cfound_ok sb r (M.findId r) w h.pos h.lt (fun W W1=>StoreRep (Grow F W W1) W1 sb (M.findSt r)) hf).mono ?_
  rintro e w' ⟨rfl,W,W1,h1,h2,h3,h4⟩
  exact ⟨rfl,h3.after h.lt h1 h2 h4⟩
 ·have e1:foundE M 0 r=⟨0,0⟩:=if_neg he
  rw [e1]
  refine (cfound_bad sb r (M.findId r) (M.findErr r) he w h.pos h.lt (fun W W1=>StoreRep (Grow F W W1) W1 sb (M.findSt r)) hf).mono ?_
  rintro e w' ⟨rfl,W,W1,h1,h2,h3,h4⟩
  exact ⟨rfl,h3.after h.lt h1 h2 h4⟩

theorem czdd_found0 {F:Nat → Prop} {w:World} {sb:Nat} {M:St} (h:StoreRep F w sb M) (r:Rec) (hr:r.ok) :
  Calls Tryz.prog 230 #[.pointer (some ⟨sb,0,none⟩),.agg #[.int .u8 r.form,.int .u8 r.top,.int .u8 r.bot,.int .u8 r.lo.tag,.int .u32 r.lo.to,.int .u8 r.hi.tag,.int .u32 r.hi.to]] w fun e w'=>e=.returned (.tuple #[.agg #[.int .u8 (foundE M 0 r).tag,.int .u32 (foundE M 0 r).to],.int .u8 (M.findErr r)]) ∧ Upd F w w' ∧ StoreRep (Grow F w w') w' sb (M.findSt r):=by
 have hf:=fun (W:World) (hW:Keeps w W)=>store_find (h.keeps hW) r hr
 by_cases he:M.findErr r=0
 ·have e1:foundE M 0 r=⟨0,M.findId r⟩:=if_pos he
  rw [e1,he]
  rw [he] at hf
  refine (zfound_ok sb r (M.findId r) w h.pos h.lt (fun W W1=>StoreRep (Grow F W W1) W1 sb (M.findSt r)) hf).mono ?_
  rintro e w' ⟨rfl,W,W1,h1,h2,h3,h4⟩
  exact ⟨rfl,h3.after h.lt h1 h2 h4⟩
 ·have e1:foundE M 0 r=⟨0,0⟩:=if_neg he
  rw [e1]
  refine (zfound_bad sb r (M.findId r) (M.findErr r) he w h.pos h.lt (fun W W1=>StoreRep (Grow F W W1) W1 sb (M.findSt r)) hf).mono ?_
  rintro e w' ⟨rfl,W,W1,h1,h2,h3,h4⟩
  exact ⟨rfl,h3.after h.lt h1 h2 h4⟩

theorem add64_run (x y c:Int) (hx:0 ≤ x) (hy:0 ≤ y) (hc0:0 ≤ c) (hc:c ≤ 1) (w:World):(callFunc 243 #[.int .u64 x,.int .u64 y,.int .u64 c]).run Tryz.prog w=.ok (.value (.tuple #[.int .u64 ((x + y + c) % 18446744073709551616),.int .u64 ((x + y + c) / 18446744073709551616)])) w:=by
 rw [run_callFunc_extern Tryz.func243 (by kernel_rfl) (by kernel_rfl) (by kernel_rfl) (e:=add64Entry) (by kernel_rfl),run_add64 x y c hx hy hc0 hc]
 rfl

theorem add64_hid (x y c:Int) (hx:0 ≤ x) (hy:0 ≤ y) (hc0:0 ≤ c) (hc:c ≤ 1):∃ s k:Int,(∀ w,(callFunc 243 #[.int .u64 x,.int .u64 y,.int .u64 c]).run Tryz.prog w=.ok (.value (.tuple #[.int .u64 s,.int .u64 k])) w) ∧ s=(x + y + c) % B64 ∧ k=(x + y + c) / B64:=
 ⟨_,_,add64_run x y c hx hy hc0 hc,rfl,rfl⟩

theorem word_at {w:World} {a:Option Addr} {ws:List Int} (h:WordsAt w a ws) (i:Nat) (hi:i < ws.length):∃ x b off,ws[i]?=some x ∧ 0 ≤ x ∧ x < 2 ^ 64 ∧ a=some ⟨b,off,none⟩ ∧ w.cell? ⟨b,off + i,none⟩=some (.int .u64 x):=by
 obtain ⟨x,hx⟩:∃ x,ws[i]?=some x:=⟨_,List.getElem?_eq_getElem hi⟩
 obtain ⟨h1,b,off,ha,hc⟩:=h i x hx
 exact ⟨x,b,off,hx,h1.1,h1.2,ha,hc⟩

set_option maxRecDepth 100000 in
set_option maxHeartbeats 400000 in
theorem nadd_calls {lo lo' u v:Nat} {x y:Value} {w:World} (hx:NatV lo w u x) (hy:NatV lo' w v y) (hu:(natW B64 u).length ≤ 32) (hv:(natW B64 v).length ≤ 32) :
  Calls Tryz.prog 240 #[x,y] w fun e w'=>∃ z,e=.returned (.tuple #[z,.bool true]) ∧ NatV w.heap.size w' (u + v) z ∧ Keeps w w':=by
 obtain ⟨j0,hj,jz0,jz1,jz2⟩:=info_parts info_u64
 -- the greater one first
 have main:∀ u1 v1:Nat,u1 + v1=u + v → (natW B64 v1).length ≤ (natW B64 u1).length → (natW B64 u1).length ≤ 32 →
   ((∃ hlt:¬ ((natW B64 u1).length:Int) < ((natW B64 v1).length:Int),Calls Tryz.prog 241 #[x,y] w fun e w'=>∃ x' y',e=.returned (.tuple #[x',y',.bool true]) ∧ NatV w.heap.size w' u1 x' ∧ NatV w.heap.size w' v1 y' ∧ Keeps w w') ∨
    (∃ hlt:((natW B64 v1).length:Int) < ((natW B64 u1).length:Int),Calls Tryz.prog 241 #[x,y] w fun e w'=>∃ x' y',e=.returned (.tuple #[x',y',.bool true]) ∧ NatV w.heap.size w' v1 x' ∧ NatV w.heap.size w' u1 y' ∧ Keeps w w')) →
   Calls Tryz.prog 240 #[x,y] w fun e w'=>∃ z,e=.returned (.tuple #[z,.bool true]) ∧ NatV w.heap.size w' (u + v) z ∧ Keeps w w':=by
  intro u1 v1 huv hle h32 hcase
  have hval:valW B64 (addB B64 (natW B64 u1).length (natW B64 u1) (natW B64 v1) 0)=((u + v:Nat):Int):=by
   rw [addB_val B64 _ _ _ _ (Nat.le_refl _) hle,valW_natW b64_two,valW_natW b64_two]
   omega
  have hokR:=addB_ok b64_two (natW B64 u1).length (natW B64 u1) (natW B64 v1) 0 (by omega) (natW_ok b64_two _) (natW_ok b64_two _)
  have hlenR:=addB_len B64 (natW B64 u1).length (natW B64 u1) (natW B64 v1) 0
  have hbig:u + v < B64 ^ 34:=by
   have h1:=natW_lt b64_two h32
   have h2:=natW_lt b64_two (Nat.le_trans hle h32)
   have h3:B64 ^ 32 + B64 ^ 32 ≤ B64 ^ 34:=by decide
   omega
  have hl64:(natW B64 (u + v)).length ≤ 64:=Nat.le_trans (natW_len b64_two hbig) (by decide)
  obtain ⟨R,hR⟩:∃ R,R=addB B64 (natW B64 u1).length (natW B64 u1) (natW B64 v1) 0:=⟨_,rfl⟩
  have hinv0:([]:List Int) ++ addB B64 ((natW B64 u1).length - 0) ((natW B64 u1).drop 0) ((natW B64 v1).drop 0) 0=R:=by rw [hR];rfl
  rw [← hR] at hval hokR hlenR
  clear hR hbig huv
  have hTold:∀ (W:World) (g cap:Nat) (ws:List Int),ws=R → RowU W g ws → ws.length ≤ cap → Calls Tryz.prog 244 #[.slice (some ⟨g,0,none⟩) ws.length cap] W fun e w'=>∃ z,e=.returned (.tuple #[z,.bool true]) ∧ NatV W.heap.size w' (u + v) z ∧ Keeps W w':=fun W g cap ws he hrow hc=>by
   subst he
   have q:=told_calls cap ws W hrow hokR (by omega) hc (by rw [hval,Int.toNat_natCast];exact hl64)
   rw [hval,Int.toNat_natCast] at q
   exact q
  obtain ⟨us,hus⟩:∃ us,us=natW B64 u1:=⟨_,rfl⟩
  obtain ⟨vs,hvs⟩:∃ vs,vs=natW B64 v1:=⟨_,rfl⟩
  have huok:WordsOk B64 us:=by rw [hus];exact natW_ok b64_two _
  have hvok:WordsOk B64 vs:=by rw [hvs];exact natW_ok b64_two _
  have hB:(∃ hlt:¬ (us.length:Int) < (vs.length:Int),Calls Tryz.prog 241 #[x,y] w fun e w'=>∃ a1 c1 a2 c2,e=.returned (.tuple #[.slice a1 us.length c1,.slice a2 vs.length c2,.bool true]) ∧ WordsAt w' a1 us ∧ WordsAt w' a2 vs ∧ Keeps w w') ∨
    (∃ hlt:(vs.length:Int) < (us.length:Int),Calls Tryz.prog 241 #[x,y] w fun e w'=>∃ a1 c1 a2 c2,e=.returned (.tuple #[.slice a2 vs.length c2,.slice a1 us.length c1,.bool true]) ∧ WordsAt w' a1 us ∧ WordsAt w' a2 vs ∧ Keeps w w'):=by
   rw [hus,hvs]
   rcases hcase with ⟨hlt,hc⟩ | ⟨hlt,hc⟩
   ·refine .inl ⟨hlt,hc.mono ?_⟩
    rintro e w1 ⟨x',y',rfl,h1,h2,hk⟩
    obtain ⟨a1,c1,rfl,-,q1⟩:=natV_len h1
    obtain ⟨a2,c2,rfl,-,q2⟩:=natV_len h2
    exact ⟨a1,c1,a2,c2,rfl,q1,q2,hk⟩
   ·refine .inr ⟨hlt,hc.mono ?_⟩
    rintro e w1 ⟨x',y',rfl,h1,h2,hk⟩
    obtain ⟨a2,c2,rfl,-,q2⟩:=natV_len h1
    obtain ⟨a1,c1,rfl,-,q1⟩:=natV_len h2
    exact ⟨a1,c1,a2,c2,rfl,q1,q2,hk⟩
  rw [← hus,← hvs] at hinv0 hle
  rw [← hus] at h32 hlenR
  clear hcase hval hl64 hus hvs hokR
  obtain ⟨n1,hn1⟩:∃ n,n=us.length:=⟨_,rfl⟩
  obtain ⟨n2,hn2⟩:∃ n,n=vs.length:=⟨_,rfl⟩
  rw [← hn1,← hn2] at hB hle
  rw [← hn1] at h32 hlenR hinv0
  have HN1:=Lib.hid hn1
  have HN2:=Lib.hid hn2
  have HT:=Lib.hid hTold
  have HI0:=Lib.hid hinv0
  have HLR:=Lib.hid hlenR
  have HUO:=Lib.hid huok
  have HVO:=Lib.hid hvok
  have e10:((n1:Int) + 1)=((n1 + 1:Nat):Int):=by omega
  have E10:=Lib.hid e10
  clear hTold hinv0 hlenR huok hvok hn1 hn2 e10
  rcases hB with ⟨hlt,hB⟩ | ⟨hlt,hB⟩
  all_goals
   have HB:=Lib.hid hB
   clear hB
   go_enter Tryz.func240,Tryz.ntmps240
   go_wp2_with (first
    | (go_at_call 241;refine HB.out.mono ?_;rintro e w1 ⟨a1,c1,a2,c2,rfl,hw1,hw2,hk1⟩;have HW1:=Lib.hid hw1;have HW2:=Lib.hid hw2;clear hw1 hw2)
    | (at_make;refine wpList_make_full _ rfl _ _ 26 rfl w1.heap.size 50 j0 (.int .u64 0) 1 Tryz.underlying26 hj jz0 jz1 .i64 .i64 _ _ (n1 + 1) rfl rfl (by simp) (by simp) (by rw [jz2];omega) (by unfold maxLen;omega) (by simp) ?_;intro w2 hown2 hg2)
    | fail)
   have HR2:=Lib.hid (rowU_made hown2)
   have hkk:Keeps w1 w2:=⟨hg2.os,hg2.tape,hg2.output,hg2.size,fun i hi=>hg2.block i hi (by simp)⟩
   have hks:=hk1.size
   have hszz:=hkk.size
   clear hown2 hg2
   go_wp2_with fail
   go_loopg [8,9,10,11,34] n1 (fun gk s8 s9 s10 s11 s34 wr=>∃ (i:Nat) (c:Int) (rs:List Int),s34=.int .i64 (i:Int) ∧ s8=.int .u64 c ∧ i + gk=n1 ∧ 0 ≤ c ∧ c ≤ 1 ∧ rs.length=n1 + 1 ∧ rs.take i ++ addB B64 (n1 - i) (us.drop i) (vs.drop i) c=R ∧ RowU wr w1.heap.size rs ∧ Upd (fun k=>k=w1.heap.size) w2 wr)
   case atStart=>exact ⟨0,0,List.replicate (n1 + 1) 0,rfl,rfl,by omega,by omega,by omega,by simp,by rw [List.take_zero];exact HI0.out,HR2.out,Upd.refl _ _⟩
   case round=>
    obtain ⟨i,c,rs,rfl,rfl,hig,c0,c1',hrl,hinv,hR,hU⟩:=hrel
    have HINV:=Lib.hid hinv
    have HR:=Lib.hid hR
    have HU:=Lib.hid hU
    have HRL:=Lib.hid hrl
    clear hinv hR hU hrl
    have hkr:Keeps w1 wr:=hkk.new HU.out (fun k hk=>by omega)
    by_cases hi:i < n1
    ·obtain ⟨p,b1,o1,hp,hp0,hp1,ha1,hcp⟩:=word_at (HW1.out.keeps hkr) i (by rw [← HN1.out];exact hi)
     subst ha1
     have hb1:=lt_of_cell hcp
     have cf:=HR.out.frozen i
     have hrlt:=HR.out.lt
     obtain ⟨z,hz⟩:∃ z,rs[i]?=some z:=⟨_,List.getElem?_eq_getElem (by rw [HRL.out];omega)⟩
     have cz:=HR.out.cell hz
     have q0:(i:Int) < (n1:Int):=by omega
     have nb1:b1 ≠ w1.heap.size:=fun e=>by have:=lt_of_cell hcp;subst e;have:=(HW1.out i p hp).2;obtain ⟨b,o,e,hc⟩:=this;cases e;have:=lt_of_cell hc;simp at this
     by_cases hi2:i < n2
     ·obtain ⟨q,b2,o2,hq,hq0,hq1,ha2,hcq⟩:=word_at (HW2.out.keeps hkr) i (by rw [← HN2.out];exact hi2)
      subst ha2
      have hb2:=lt_of_cell hcq
      have q02:(i:Int) < (n2:Int):=by omega
      obtain ⟨s,k,hrun,hs,hk⟩:=add64_hid p q c hp0 hq0 c0 c1'
      have hst:=addB_step hi HINV.out
      rw [drop_headD hp,drop_headD hq,← hs,← hk] at hst
      have hkr2:0 ≤ k ∧ k ≤ 1:=by rw [hk];exact add_carry ⟨hp0,by show p < 2 ^ 64;exact hp1⟩ ⟨hq0,hq1⟩ ⟨c0,c1'⟩
      have HST:=Lib.hid hst
      have HZ:=Lib.hid hz
      clear hst hs hk hp hq hz
      obtain ⟨k0,k1'⟩:=hkr2
      go_wp2_with (simp only [hrun])
      go_roundg (gk - 1)
      case rel=>exact ⟨i + 1,k,rs.set i s,congrArg (Value.int .i64) (by omega),rfl,by omega,k0,k1',by rw [List.length_set,HRL.out],by rw [wset_take (by rw [HRL.out];omega)];exact HST.out,HR.out.set i s (by rw [HRL.out];omega),HU.out.setCell (Or.inl rfl) _⟩
      case measure=>omega
     ·have q02:¬ (i:Int) < (n2:Int):=by omega
      obtain ⟨s,k,hrun,hs,hk⟩:=add64_hid p 0 c hp0 (Int.le_refl 0) c0 c1'
      have hst:=addB_step hi HINV.out
      rw [drop_headD hp,drop_headD_none (by rw [← HN2.out];omega),← hs,← hk] at hst
      have hkr2:0 ≤ k ∧ k ≤ 1:=by rw [hk];exact add_carry ⟨hp0,by show p < 2 ^ 64;exact hp1⟩ ⟨Int.le_refl 0,by decide⟩ ⟨c0,c1'⟩
      have HST:=Lib.hid hst
      have HZ:=Lib.hid hz
      clear hst hs hk hp hz
      obtain ⟨k0,k1'⟩:=hkr2
      go_wp2_with (simp only [hrun])
      go_roundg (gk - 1)
      case rel=>exact ⟨i + 1,k,rs.set i s,congrArg (Value.int .i64) (by omega),rfl,by omega,k0,k1',by rw [List.length_set,HRL.out],by rw [wset_take (by rw [HRL.out];omega)];exact HST.out,HR.out.set i s (by rw [HRL.out];omega),HU.out.setCell (Or.inl rfl) _⟩
      case measure=>omega
    ·have hie:i=n1:=by omega
     subst hie
     have q0:¬ (i:Int) < (i:Int):=by omega
     have cf:=HR.out.frozen i
     have hrlt:=HR.out.lt
     obtain ⟨z,hz⟩:∃ z,rs[i]?=some z:=⟨_,List.getElem?_eq_getElem (by rw [HRL.out];omega)⟩
     have cz:=HR.out.cell hz
     have hfin:rs.set i c=R:=by
      have h1:=HINV.out
      rw [Nat.sub_self] at h1
      rw [← h1]
      show rs.set i c=rs.take i ++ [c]
      have h2:=wset_take (l:=rs) (i:=i) (y:=c) (by rw [HRL.out];omega)
      rw [← h2,List.take_of_length_le (by rw [List.length_set,HRL.out];omega)]
     have hlen2:(rs.set i c).length=i + 1:=by rw [List.length_set,HRL.out]
     have hrow2:=HR.out.set i c (by rw [HRL.out];omega)
     have hT2:=HT.out _ _ (i + 1) _ hfin hrow2 (by rw [hlen2];exact Nat.le_refl _)
     rw [hlen2] at hT2
     have HT2:=Lib.hid hT2
     clear hfin hlen2 hrow2 hT2 hz
     go_wp2_with (first | (go_at_call 244;refine HT2.out.mono ?_;rintro e w5 ⟨zv,rfl,hzv,hk5⟩) | fail)
     go_ret2
     have hke:Keeps w (wr.setCell ⟨w1.heap.size,i,none⟩ (.int .u64 c)):=hk1.trans (hkk.new (HU.out.setCell (Or.inl rfl) _) (fun k hk=>by omega))
     exact ⟨zv,rfl,hzv.le hke.size,hke.trans hk5⟩
 rcases Nat.lt_or_ge (natW B64 u).length (natW B64 v).length with hlt | hge
 ·refine main v u (Nat.add_comm v u) (Nat.le_of_lt hlt) hv (.inr ⟨by omega,?_⟩)
  exact nboth_calls hx hy (by omega) (by omega)
 ·refine main u v rfl hge hu (.inl ⟨by omega,?_⟩)
  exact nboth_calls hx hy (by omega) (by omega)

set_option maxRecDepth 100000 in
theorem words_calls (a:Option Addr) (cap v:Nat) (w:World) (h:WordsAt w a (natW B64 v)) (hl:(natW B64 v).length ≤ 100000) :
  Calls Tryz.prog 72 #[.slice a (natW B64 v).length cap] w fun e w'=>e=.returned (.int .i64 ((natW B64 v).length:Int)) ∧ w=w':=by
 have ht:=natW_trim b64_two v
 obtain ⟨ws,hws⟩:∃ ws,ws=natW B64 v:=⟨_,rfl⟩
 rw [← hws] at h hl ht ⊢
 clear hws
 have hlast:∀ j,ws.length=j + 1 → ∀ x,ws[j]?=some x → x ≠ 0:=fun j hj x hx e=>by
  apply ht
  rw [List.getLast?_eq_getElem?,hj]
  subst e
  exact hx
 obtain ⟨N,hN⟩:∃ N,N=ws.length:=⟨_,rfl⟩
 rw [← hN] at hl hlast ⊢
 have HN:=Lib.hid hN
 have HI:=Lib.hid h
 have HLA:=Lib.hid hlast
 clear hN h hlast ht
 go_enter Tryz.func72,Tryz.ntmps72
 go_wp2_with fail
 go_loopg [3] N (fun gk s3 wr=>s3=.int .i64 (N:Int) ∧ gk=N ∧ w=wr)
 case atStart=>exact ⟨rfl,rfl,rfl⟩
 case round=>
  obtain ⟨rfl,rfl,rfl⟩:=hrel
  by_cases h0:gk=0
  ·subst h0
   have q:¬ (0:Int) < ((0:Nat):Int):=by omega
   go_wp2_with fail
   go_ret
   exact ⟨rfl,rfl⟩
  ·obtain ⟨j,rfl⟩:∃ j,gk=j + 1:=⟨gk - 1,by omega⟩
   obtain ⟨x,b,off,hx,hx0,hx1,ha,hcell⟩:=word_at HI.out j (by rw [← HN.out];omega)
   have hne:=HLA.out j rfl x hx
   subst ha
   have hxe:(x == 0)=false:=by simpa using hne
   have hbl:=lt_of_cell hcell
   have hp:(0:Int) < ((j + 1:Nat):Int):=by omega
   clear hx hne h0
   go_wp2_with fail
   go_ret
   exact ⟨rfl,rfl⟩

set_option maxRecDepth 100000 in
theorem dless_calls (a b:Option Addr) (ca cb:Nat) (ds:List Int) (w:World) (ha:IntsAt w a ds) (hb:IntsAt w b ds) (hl:ds.length ≤ 100000) :
  Calls Tryz.prog 141 #[.slice a ds.length ca,.slice b ds.length cb] w fun e w'=>e=.returned (.bool false) ∧ Keeps w w':=by
 obtain ⟨N,hN⟩:∃ N,N=ds.length:=⟨_,rfl⟩
 rw [← hN] at hl ⊢
 have HN:=Lib.hid hN
 have HA:=Lib.hid ha
 have HB:=Lib.hid hb
 have g1:((N:Int) == (N:Int))=true:=by simp
 clear hN ha hb
 go_enter Tryz.func141,Tryz.ntmps141
 go_wp2_with fail
 go_loopg [5] N (fun gk s5 wr=>s5=.int .i64 ((gk:Int) - 1) ∧ gk ≤ N ∧ Keeps w wr)
 case atStart=>exact ⟨rfl,Nat.le_refl _,Keeps.refl _⟩
 case round=>
  obtain ⟨rfl,hg,hk⟩:=hrel
  by_cases h0:gk=0
  ·subst h0
   have q:¬ (0:Int) ≤ ((0:Nat):Int) - 1:=by omega
   go_wp2_with fail
   go_ret
   exact ⟨rfl,hk⟩
  ·obtain ⟨j,rfl⟩:∃ j,gk=j + 1:=⟨gk - 1,by omega⟩
   rw [show ((j + 1:Nat):Int) - 1=(j:Int) from by omega]
   obtain ⟨x,b1,o1,hx,ha1,hcx⟩:=int_at (HA.out.keeps hk) j (by rw [← HN.out];omega)
   obtain ⟨y,b2,o2,hy,ha2,hcy⟩:=int_at (HB.out.keeps hk) j (by rw [← HN.out];omega)
   have hxy:y=x:=Option.some.inj (hy.symm.trans hx)
   subst hxy
   subst ha1
   subst ha2
   have hb1:=lt_of_cell hcx
   have hb2:=lt_of_cell hcy
   have q0:(0:Int) ≤ (j:Int):=by omega
   have hne:(y == y)=true:=by simp
   clear hx hy h0
   go_wp2_with fail
   go_region
   go_wp2_with fail
   go_roundg j
   case rel=>exact ⟨rfl,by omega,by (exact kp)⟩
   case measure=>omega

set_option maxRecDepth 100000 in
theorem dsame_calls (a b:Option Addr) (ca cb:Nat) (ds:List Int) (w:World) (ha:IntsAt w a ds) (hb:IntsAt w b ds) (hl:ds.length ≤ 100000) :
  Calls Tryz.prog 73 #[.slice a ds.length ca,.slice b ds.length cb] w fun e w'=>e=.returned (.bool true) ∧ Keeps w w':=by
 have H1:=Lib.hid (fun (W:World) (hW:Keeps w W)=>dless_calls a b ca cb ds W (ha.keeps hW) (hb.keeps hW) hl)
 have H2:=Lib.hid (fun (W:World) (hW:Keeps w W)=>dless_calls b a cb ca ds W (hb.keeps hW) (ha.keeps hW) hl)
 obtain ⟨N,hN⟩:∃ N,N=ds.length:=⟨_,rfl⟩
 rw [← hN] at hl H1 H2 ⊢
 clear ha hb hN
 go_enter Tryz.func73,Tryz.ntmps73
 go_wp2_with (first
  | (go_at_call 141;have qq:=H1;clear qq;refine (H1.out _ (by (exact kp))).mono ?_;rintro e w1 ⟨rfl,hk1⟩;clear H1)
  | (go_at_call 141;refine (H2.out _ (by (exact kp))).mono ?_;rintro e w2 ⟨rfl,hk2⟩)
  | fail)
 go_ret
 exact ⟨rfl,hk1.trans hk2⟩

theorem is_calls (a d:Option Addr) (ca cd v:Nat) (w:World) (ha:WordsAt w a (natW B64 v)) (hd:IntsAt w d (natW 10 v)) (hl:(natW B64 v).length ≤ 100) :
  Calls Tryz.prog 15 #[.slice a (natW B64 v).length ca,.slice d (natW 10 v).length cd] w fun e w'=>e=.returned (.bool true) ∧ Keeps w w':=by
 have hl2:(natW 10 v).length ≤ 2000:=by
  have:=digits_words (natW_lt b64_two hl)
  omega
 have HW:=Lib.hid (words_calls a ca v w ha (by omega))
 have hD:=digits_calls a ca (natW B64 v) w ha hl
 rw [valW_natW b64_two,Int.toNat_natCast] at hD
 have HD:=Lib.hid hD
 have HS:=Lib.hid (fun (W:World) (b:Option Addr) (cb:Nat) (hW:Keeps w W) (hb:IntsAt W b (natW 10 v))=>dsame_calls b d cb cd (natW 10 v) W hb (hd.keeps hW) (by omega))
 obtain ⟨n1,hn1⟩:∃ n,n=(natW B64 v).length:=⟨_,rfl⟩
 obtain ⟨ds,hds⟩:∃ ds,ds=natW 10 v:=⟨_,rfl⟩
 rw [← hn1] at HW HD hl ⊢
 rw [← hds] at HD HS hl2 ⊢
 clear ha hd hD hn1 hds
 go_enter Tryz.func15,Tryz.ntmps15
 go_wp2_with (first
  | (go_at_call 72;refine HW.out.mono ?_;rintro e w1 ⟨rfl,rfl⟩)
  | (go_at_call 24;refine HD.out.mono ?_;rintro e w2 ⟨b,cb,rfl,hrow,hk2⟩;have HR:=Lib.hid hrow;clear hrow)
  | (go_at_call 73;refine (HS.out _ b cb hk2 HR.out.ints).mono ?_;rintro e w3 ⟨rfl,hk3⟩)
  | fail)
 go_ret
 exact ⟨rfl,hk2.trans hk3⟩

end Go.Proofs.YtpgcbmbnognieaaGreat
