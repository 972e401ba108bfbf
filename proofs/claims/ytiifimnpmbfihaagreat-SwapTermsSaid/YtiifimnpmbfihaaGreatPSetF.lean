/-
  perm.Steps.
-/
import Derived.Test.YtiifimnpmbfihaaGreatPTermsP
namespace Go.Proofs.YtiifimnpmbfihaaGreat
set_option linter.unusedSimpArgs false
set_option linter.unusedVariables false
set_option maxHeartbeats 600000
open Go.RowKit

set_option maxRecDepth 100000 in
theorem steps_bad (a1 a2:Option Addr) (cap1 cap2:Nat) (ps qs:List Int) (w:World) (h1:IntsAt w a1 ps) (h2:IntsAt w a2 qs) (hp:permB ps=true) (hl1:ps.length ≤ 1048576) (hl2:qs.length ≤ 1048576) (h:¬ (ps.length=qs.length ∧ permB qs=true)) :
  Calls Tryz.prog 132 #[.slice a1 ps.length cap1,.slice a2 qs.length cap2] w fun e w'=>e=.returned (.tuple #[.slice none 0 0,.bool false]) ∧ Keeps w w':=by
 have hR1:=fun W (hW:Keeps w W)=>permRight_calls a1 cap1 ps W (h1.keeps hW) hl1
 have hR2:=fun W (hW:Keeps w W)=>permRight_calls a2 cap2 qs W (h2.keeps hW) hl2
 rw [hp] at hR1
 obtain ⟨K,hK⟩:∃ K,K=ps.length:=⟨_,rfl⟩
 obtain ⟨N,hN⟩:∃ N,N=qs.length:=⟨_,rfl⟩
 cases hq:permB qs with
 | false=>
  rw [hq] at hR2
  rw [← hK] at hR1 ⊢
  rw [← hN] at hR2 ⊢
  have HR1:=Lib.hid hR1
  have HR2:=Lib.hid hR2
  clear hR1 hR2 h h1 h2 hl1 hl2 hp hq hN hK
  go_enter Tryz.func132,Tryz.ntmps132
  go_wp2_with fail
  refine (HR1.out _ (by (exact kp))).mono ?_
  rintro e w1 ⟨rfl,rfl⟩
  go_wp2_with fail
  refine (HR2.out _ (by (exact kp))).mono ?_
  rintro e w2 ⟨rfl,rfl⟩
  go_wp2_with fail
  go_ret2
  exact ⟨rfl,by (exact kp)⟩
 | true=>
  have hne:¬ K=N:=fun e=>h ⟨by omega,hq⟩
  rw [hq] at hR2
  rw [← hK] at hR1 ⊢
  rw [← hN] at hR2 ⊢
  have HR1:=Lib.hid hR1
  have HR2:=Lib.hid hR2
  have HN:=Lib.hid hN
  have HK:=Lib.hid hK
  clear hR1 hR2 h h1 h2 hp hq hN hK
  have hl1':K ≤ 1048576:=by rw [HK.out];exact hl1
  have hl2':N ≤ 1048576:=by rw [HN.out];exact hl2
  clear hl1 hl2
  go_enter Tryz.func132,Tryz.ntmps132
  go_wp2_with fail
  refine (HR1.out _ (by (exact kp))).mono ?_
  rintro e w1 ⟨rfl,rfl⟩
  go_wp2_with fail
  refine (HR2.out _ (by (exact kp))).mono ?_
  rintro e w2 ⟨rfl,rfl⟩
  go_wp2_with fail
  go_ret2
  exact ⟨rfl,by (exact kp)⟩

set_option maxRecDepth 100000 in
theorem index_calls (g cap:Nat) (ps:List Int) (x:Int) (w:World) (h:RowI w g ps) (hl:ps.length ≤ 1048576) (hx:x ∈ ps) :
  Calls Tryz.prog 213 #[.slice (some ⟨g,0,none⟩) ps.length cap,.int .i64 x] w fun e w'=>(∃ k:Nat,e=.returned (.int .i64 (k:Int)) ∧ ps[k]?=some x) ∧ w=w':=by
 obtain ⟨N,hN⟩:∃ N,N=ps.length:=⟨_,rfl⟩
 rw [← hN] at hl ⊢
 have H:=Lib.hid h
 have HN:=Lib.hid hN
 have HX:=Lib.hid hx
 clear h hN hx
 go_enter Tryz.func213,Tryz.ntmps213
 go_wp2_with fail
 go_loopg [5,8] N (fun gk s5 s8 wr=>∃ d:Nat,s8=.int .i64 (d:Int) ∧ d + gk=N ∧ (∀ j,j < d → ps[j]? ≠ some x) ∧ w=wr)
 case atStart=>exact ⟨0,rfl,by omega,fun j hj=>by omega,rfl⟩
 case round=>
  obtain ⟨d,rfl,hd,hne,rfl⟩:=hrel
  have HNE:=Lib.hid hne
  clear hne
  by_cases hlt:d < N
  ·obtain ⟨y,hy⟩:∃ b,ps[d]?=some b:=⟨_,List.getElem?_eq_getElem (by rw [← HN.out];exact hlt)⟩
   have hc:=H.out.cell hy
   have HY:=Lib.hid hy
   clear hy
   by_cases he:x=y
   ·subst he
    go_wp2_with fail
    go_ret
    exact ⟨⟨d,rfl,HY.out⟩,rfl⟩
   ·go_wp2_with fail
    go_roundg (gk - 1)
    case rel=>
     refine ⟨d + 1,by simp,by omega,fun j hj hh=>?_,rfl⟩
     by_cases hjd:j=d
     ·subst hjd
      rw [HY.out] at hh
      exact he (Option.some.inj hh).symm
     ·exact HNE.out j (by omega) hh
    case measure=>omega
  ·exfalso
   obtain ⟨j,hj⟩:=List.mem_iff_getElem?.1 HX.out
   have:=(List.getElem?_eq_some_iff.1 hj).1
   exact HNE.out j (by have:=HN.out;omega) hj

theorem ownsRow_low {w:World} {lo lo2:Nat} {e:TypeId} {size:Nat} {v:Value} {n:Nat} {xs:List Value} (hl:lo2 ≤ lo) (h:w.ownsRow lo e size v n xs):w.ownsRow lo2 e size v n xs:=by
 refine ⟨h.1,?_⟩
 rcases h.2 with hn | ⟨g,cap,cur,e0,hb,rest⟩
 ·exact .inl hn
 ·exact .inr ⟨g,cap,cur,e0,Nat.le_trans hl hb,rest⟩

set_option maxRecDepth 100000 in
set_option maxHeartbeats 2000000 in
theorem steps_calls (a1 a2:Option Addr) (cap1 cap2:Nat) (ps qs:List Int) (w:World) (h1:IntsAt w a1 ps) (h2:IntsAt w a2 qs) (hp:permB ps=true) (hq:permB qs=true) (hl:ps.length=qs.length) :
  Calls Tryz.prog 132 #[.slice a1 ps.length cap1,.slice a2 qs.length cap2] w fun e w'=>∃ (ss:List Nat) (a':Option Addr) (cap':Nat),e=.returned (.tuple #[.slice a' ss.length cap',.bool true]) ∧
   w'.ownsRow w.heap.size 3 1 (.slice a' ss.length cap') ss.length (ss.map (fun s:Nat=>Value.int .i64 (s:Int))) ∧ runL ps ss=qs ∧ (∀ s ∈ ss,s + 1 < ps.length) ∧ ss.length ≤ ps.length * ps.length ∧ Keeps w w':=by
 have h16:=(permB_iff.1 hp).1
 have hR1:=fun W (hW:Keeps w W)=>permRight_calls a1 cap1 ps W (h1.keeps hW) (by omega)
 have hR2:=fun W (hW:Keeps w W)=>permRight_calls a2 cap2 qs W (h2.keeps hW) (by omega)
 have hCL:=fun W (hW:Keeps w W)=>clone_calls a1 cap1 ps W (h1.keeps hW) (by omega)
 obtain ⟨i0,hi,hz0,hz1,hz2⟩:=info_parts info_int
 obtain ⟨N,hN⟩:∃ N,N=ps.length:=⟨_,rfl⟩
 have hidx:=fun (g cap:Nat) (ss:List Nat) (x:Int) (W:World) (hr:RowI W g (runL ps ss)) (hx:x ∈ runL ps ss)=>by
  have:=index_calls g cap (runL ps ss) x W hr (by rw [runL_len];omega) hx
  rw [runL_len,← hN] at this
  exact this
 rw [hp,← hN] at hR1
 rw [hq,← hl,← hN] at hR2
 rw [← hN] at hCL
 rw [← hl,← hN]
 rw [← hN] at h16
 have HR1:=Lib.hid hR1
 have HR2:=Lib.hid hR2
 have HCL:=Lib.hid hCL
 have HIX:=Lib.hid hidx
 have HN:=Lib.hid hN
 have HL:=Lib.hid hl
 have HP:=Lib.hid hp
 have HQ:=Lib.hid hq
 have H2:=Lib.hid h2
 clear hR1 hR2 hCL hidx hN hl hp hq h1 h2
 go_enter Tryz.func132,Tryz.ntmps132
 go_wp2_with fail
 refine (HR1.out _ (by (exact kp))).mono ?_
 rintro e w1 ⟨rfl,rfl⟩
 go_wp2_with fail
 refine (HR2.out _ (by (exact kp))).mono ?_
 rintro e w2 ⟨rfl,rfl⟩
 go_wp2_with fail
 refine (HCL.out _ (by (exact kp))).mono ?_
 rintro e w3 ⟨gaddr,gcap,rfl,hrv,hk3⟩
 have HRV:=Lib.hid hrv
 clear hrv
 go_wp2_with fail
 go_loopg [7,8,9,10,30] N (fun gk s7 s8 s9 s10 s30 wr=>∃ (d:Nat) (ss:List Nat) (la:Option Addr) (lcap:Nat),s30=.int .i64 (d:Int) ∧ s7=.slice la ss.length lcap ∧ d + gk=N ∧ StepsAt ps qs d ss ∧ RowV w.heap.size wr gaddr (runL ps ss) ∧ wr.ownsRow w3.heap.size 3 1 (.slice la ss.length lcap) ss.length (ss.map (fun s:Nat=>Value.int .i64 (s:Int))) ∧ Keeps w wr ∧ w3.heap.size ≤ wr.heap.size)
 case atStart=>exact ⟨0,[],none,0,rfl,rfl,by omega,StepsAt.start ps qs,HRV.out,World.ownsRow_nil _ _ _ _,hk3,Nat.le_refl _⟩
 case round=>
  obtain ⟨d,ss,la,lcap,rfl,rfl,hd,hst,hrow,hown,hk,hsz⟩:=hrel
  have HST:=Lib.hid hst
  have HROW:=Lib.hid hrow
  have HO:=Lib.hid hown
  clear hst hrow hown
  by_cases hlt:d < N
  ·obtain ⟨x,hx⟩:∃ b,qs[d]?=some b:=⟨_,List.getElem?_eq_getElem (by rw [← HL.out,← HN.out];exact hlt)⟩
   obtain ⟨b,off,rfl,hc0⟩:=H2.out d x hx
   have hc:=hk.cell hc0
   have hxm:=HST.out.has HP.out HQ.out HL.out hx
   have HX:=Lib.hid hx
   obtain ⟨g,rfl,hgl,hgr⟩:=HROW.out (fun e=>by rw [e] at hxm;cases hxm)
   have hgw:g < w3.heap.size:=by
    obtain ⟨g',e',_,hr'⟩:=HRV.out (fun e=>by rw [e] at HN;have:=HN.out;simp at this;omega)
    cases e'
    exact hr'.lt
   have hix:=HIX.out g gcap ss x wr hgr hxm
   have HG:=Lib.hid hgr
   have HIX2:=Lib.hid hix
   clear hix hxm hc0 hx hgr
   go_wp2_with fail
   refine HIX2.out.mono ?_
   rintro e w4 ⟨⟨k,rfl,hkk⟩,rfl⟩
   have hin:=HST.out.low HQ.out HX.out hkk
   have hklt:=hin.lt
   have hlow:=hin.low
   have HIN:=Lib.hid hin
   clear hkk hin
   rw [← HN.out] at hklt
   obtain ⟨g0,hg0⟩:∃ g0,g0=gk:=⟨_,rfl⟩
   rw [← hg0] at hd
   go_wp2_with fail
   go_loopg [7,10] (k - d) (fun gk2 s7 s10 wr2=>∃ (p:Nat) (ss2:List Nat) (lb:Option Addr) (lcap2:Nat),s10=.int .i64 ((p:Int) - 1) ∧ s7=.slice lb ss2.length lcap2 ∧ p=d + gk2 ∧ p < N ∧ StepsIn ps qs d p x ss2 ∧ RowI wr2 g (runL ps ss2) ∧ wr2.ownsRow w3.heap.size 3 1 (.slice lb ss2.length lcap2) ss2.length (ss2.map (fun s:Nat=>Value.int .i64 (s:Int))) ∧ Keeps w wr2 ∧ w3.heap.size ≤ wr2.heap.size)
   case atStart=>exact ⟨k,ss,la,lcap,rfl,rfl,by omega,hklt,HIN.out,HG.out,HO.out,hk,hsz⟩
   case round=>
    obtain ⟨p,ss2,lb,lcap2,rfl,rfl,hp,hpn,hin2,hrow2,hown2,hk2,hsz2⟩:=hrel
    have HIN2:=Lib.hid hin2
    have HROW2:=Lib.hid hrow2
    have HO2:=Lib.hid hown2
    clear hin2 hrow2 hown2
    have HPG:=Lib.hid hp
    clear hp
    by_cases hgt:d < p
    ·obtain ⟨q,rfl⟩:∃ q,p=q + 1:=⟨p - 1,by omega⟩
     rw [show ((q + 1:Nat):Int) - 1=(q:Int) from by omega]
     have hge:d ≤ q:=by omega
     have hql:q + 1 < (runL ps ss2).length:=by rw [runL_len,← HN.out];exact hpn
     obtain ⟨y,hy⟩:∃ b,(runL ps ss2)[q]?=some b:=⟨_,List.getElem?_eq_getElem (by omega)⟩
     have hx2:=HIN2.out.here
     have ca:=HROW2.out.cell hy
     have cb:=HROW2.out.cell hx2
     have HY:=Lib.hid hy
     have fa:=HROW2.out.frozen q
     have fb:=HROW2.out.frozen (q + 1)
     have hgl2:g < wr.heap.size:=HROW2.out.lt
     clear hy hx2
     have hU5:Upd (fun j=>j=g) wr ((wr.setCell ⟨g,q,none⟩ (.int .i64 x)).setCell ⟨g,q + 1,none⟩ (.int .i64 y)):=Upd.setCell (F:=fun j=>j=g) (p:=⟨g,q + 1,none⟩) (Upd.setCell (F:=fun j=>j=g) (p:=⟨g,q,none⟩) (Upd.refl _ _) (.inl rfl) _) (.inl rfl) _
     have hO5:=hU5.owns (fun k hk e=>by
      rcases HO2.out.2 with ⟨e0,_⟩ | ⟨g',cap',cur,e0,hbg,_⟩
      ·rw [e0] at hk;simp [Value.ownBlock] at hk
      ·rw [e0] at hk;simp [Value.ownBlock] at hk;omega) HO2.out
     have hR5:RowI ((wr.setCell ⟨g,q,none⟩ (.int .i64 x)).setCell ⟨g,q + 1,none⟩ (.int .i64 y)) g (runL ps (ss2 ++ [q])):=by
      rw [runL_snoc]
      unfold stepL
      have e1:(runL ps ss2).getD (q + 1) 0=x:=by rw [List.getD_eq_getElem?_getD,HIN2.out.here];rfl
      have e2:(runL ps ss2).getD q 0=y:=by rw [List.getD_eq_getElem?_getD,HY.out];rfl
      rw [e1,e2]
      exact (HROW2.out.set q x (by omega)).set (q + 1) y (by simpa using hql)
     have hfew:=HIN2.out.few
     have hNN:ps.length * ps.length ≤ 16 * 16:=Nat.mul_le_mul (by rw [← HN.out];exact h16) (by rw [← HN.out];exact h16)
     have hdn:d * ps.length + ps.length ≤ ps.length * ps.length:=by
      have:=Nat.mul_le_mul_right ps.length (show d + 1 ≤ ps.length by rw [← HN.out];omega)
      rwa [Nat.add_mul,Nat.one_mul] at this
     have hl256:ss2.length + 1 ≤ 256:=by omega
     have q1:ss2.length + 1 ≤ maxLen:=by unfold maxLen;omega
     have q2:(ss2.length + 1) * 8 ≤ 140737488355328:=by omega
     have HO5:=Lib.hid hO5
     have HR5:=Lib.hid hR5
     have HU5:=Lib.hid hU5
     clear hO5 hR5 hU5 hfew hNN hdn hl256
     have hw0:=hk3.size
     go_upto_region 11 with fail
     go_cut [] (fun wx=>Keeps ((wr.setCell ⟨g,q,none⟩ (.int .i64 x)).setCell ⟨g,q + 1,none⟩ (.int .i64 y)) wx)
     case first=>
      go_region
      all_goals go_wp2_with fail
      all_goals go_meet
      all_goals (exact kp)
     case rest=>
      obtain ⟨W6,hW6⟩:∃ W,W=wc:=⟨_,rfl⟩
      rw [← hW6] at hcut ⊢
      clear hW6
      have hO6:=(hcut.upd (fun _=>False)).owns (fun _ _ h=>h) HO5.out
      have hR6:=HR5.out.keeps hcut
      have hU6:=HU5.out.trans' (hcut.upd _)
      have hs6:=hU6.size
      have hk6:Keeps w W6:=hk2.new hU6 (fun k e=>by subst e;exact hgl)
      have HR6:=Lib.hid hR6
      have HO6:=Lib.hid hO6
      clear hO6 hR6 hU6 hcut ca cb fa fb
      go_wp2_with (first
       | (at_builtin;refine wpList_append_own _ rfl _ _ 23 rfl w3.heap.size 3 i0 (.int .i64 0) 1 8 Tryz.underlying23 hi hz0 hz1 hz2 rfl (by decide) (.slice lb ss2.length lcap2) ss2.length (ss2.map (fun s:Nat=>Value.int .i64 (s:Int))) rfl (HO6.out.alloc _) ⟨W6.heap.size,0,none⟩ 1 1 [.int .i64 (q:Int)] rfl rfl (cell_new _ _ _ _ rfl) (by simp [Value.oneCell']) (by exact q1) (by exact q2) (by simp;omega) ?_;intro v3 w5 hown3 hg3 _)
       | fail)
      obtain ⟨lc,lcap3,rfl,-⟩:=owns_slice hown3
      have hu3:Upd (fun k=>(Value.slice lb ss2.length lcap2).ownBlock=some k) W6 w5:=Upd.grown (by repeat (first | exact Upd.refl _ _ | refine Upd.alloc ?_ _ | refine Upd.drew ?_)) hg3 (fun k hk=>.inl hk)
      have hbase:∀ k,(Value.slice lb ss2.length lcap2).ownBlock=some k → w3.heap.size ≤ k:=fun k hk2=>by
       rcases HO6.out.2 with ⟨e0,_⟩ | ⟨g',cap',cur,e0,hbg,_⟩
       ·rw [e0] at hk2;simp [Value.ownBlock] at hk2
       ·rw [e0] at hk2;simp [Value.ownBlock] at hk2;omega
      have hs7:=hu3.size
      have hR7:=HR6.out.keep hu3 (fun e=>by have:=hbase _ e;omega)
      have hk7:=hk6.new hu3 (fun k hk2=>by have:=hbase _ hk2;omega)
      have HR7:=Lib.hid hR7
      have HOW:=Lib.hid hown3
      clear hown3 hg3 hu3 hR7
      go_wp2_with fail
      go_roundg (gk - 1)
      case rel=>exact ⟨q,ss2 ++ [q],lc,lcap3,rfl,by simp,by have:=HPG.out;omega,by omega,HIN2.out.next hge,HR7.out,by have:=HOW.out;simpa using this,hk7,by omega⟩
      case measure=>have:=HPG.out;omega
    ·have hpd:p=d:=by have:=HIN2.out.low;omega
     subst hpd
     have hlt2:¬ (p:Int) ≤ (p:Int) - 1:=by omega
     have hout:=HIN2.out.out HX.out
     have HOUT:=Lib.hid hout
     clear hout
     go_wp2_with fail
     go_roundg (g0 - 1)
     case rel=>exact ⟨p + 1,ss2,lb,lcap2,by simp,rfl,by omega,HOUT.out,fun _=>⟨g,rfl,hgl,HROW2.out⟩,HO2.out,hk2,hsz2⟩
     case measure=>omega
  ·have hd2:d=N:=by omega
   subst hd2
   have hfin:runL ps ss=qs:=by
    have h0:=HST.out
    rw [HN.out] at h0
    exact h0.done HL.out
   have hfew:=HST.out.few
   rw [← HN.out] at hfew
   have hO:=HO.out
   have hb:(Value.slice la ss.length lcap).ownBlock=none ∨ True:=.inr trivial
   have hOl:wr.ownsRow w.heap.size 3 1 (.slice la ss.length lcap) ss.length (ss.map (fun s:Nat=>Value.int .i64 (s:Int))):=ownsRow_low hk3.size hO
   have HOL:=Lib.hid hOl
   have HFIN:=Lib.hid hfin
   have HFEW:=Lib.hid hfew
   clear hfin hfew hO hb hOl
   go_wp2_with fail
   go_ret2
   exact ⟨ss,la,lcap,rfl,HOL.out,HFIN.out,fun s hs=>by rw [HN.out];exact HST.out.fit s hs,by have:=HFEW.out;exact this,hk⟩

def wAt (ts:List Bool) (x j:Nat):Nat:=numL ((ts.drop (max x (64 * j))).take (64 * (j + 1) - max x (64 * j)))

theorem wAt_top (ts:List Bool) (j:Nat):wAt ts ts.length j=0:=by
 unfold wAt
 rw [List.drop_of_length_le (by omega),List.take_nil]
 rfl

theorem wAt_zero (ts:List Bool) (j:Nat):wAt ts 0 j=numL ((ts.drop (64 * j)).take 64):=by
 unfold wAt
 rw [show max 0 (64 * j)=64 * j by omega,show 64 * (j + 1) - 64 * j=64 by omega]

theorem wAt_here {ts:List Bool} {x:Nat} {b:Bool} (hb:ts[x]?=some b):wAt ts x (x / 64)=(if b then 1 else 0) + 2 * wAt ts (x + 1) (x / 64):=by
 obtain ⟨hl,he⟩:=List.getElem?_eq_some_iff.1 hb
 unfold wAt
 rw [show max x (64 * (x / 64))=x by omega,show max (x + 1) (64 * (x / 64))=x + 1 by omega,List.drop_eq_getElem_cons hl,he,show 64 * (x / 64 + 1) - x=(64 * (x / 64 + 1) - (x + 1)) + 1 by omega,List.take_succ_cons]
 rfl

theorem wAt_else {ts:List Bool} {x j:Nat} (hj:¬ j=x / 64):wAt ts x j=wAt ts (x + 1) j:=by
 unfold wAt
 by_cases h:x < 64 * j
 ·rw [show max x (64 * j)=64 * j by omega,show max (x + 1) (64 * j)=64 * j by omega]
 ·rw [show 64 * (j + 1) - max x (64 * j)=0 by omega,show 64 * (j + 1) - max (x + 1) (64 * j)=0 by omega,List.take_zero,List.take_zero]

theorem wAt_lt (ts:List Bool) (x:Nat):wAt ts (x + 1) (x / 64) < 2 ^ 63:=by
 unfold wAt
 have h1:=numL_lt ((ts.drop (max (x + 1) (64 * (x / 64)))).take (64 * (x / 64 + 1) - max (x + 1) (64 * (x / 64))))
 have h2:((ts.drop (max (x + 1) (64 * (x / 64)))).take (64 * (x / 64 + 1) - max (x + 1) (64 * (x / 64)))).length ≤ 63:=by rw [List.length_take];omega
 exact Nat.lt_of_lt_of_le h1 (Nat.pow_le_pow_right (by decide) h2)

theorem wAt_step {ts:List Bool} {vs:List Int} {x:Nat} {b:Bool} {v y:Int} (hvs:∀ (j:Nat) (v:Int),vs[j]?=some v → v=(wAt ts (x + 1) j:Int)) (hb:ts[x]?=some b) (hv:vs[x / 64]?=some v) (hy:y=(if b then 1 else 0) + 2 * v) (j:Nat) (u:Int) (hu:(vs.set (x / 64) y)[j]?=some u):u=(wAt ts x j:Int):=by
 by_cases hj:j=x / 64
 ·subst hj
  rw [List.getElem?_set_self (List.getElem?_eq_some_iff.1 hv).1] at hu
  have h1:=hvs _ v hv
  rw [← Option.some.inj hu,hy,wAt_here hb,h1]
  cases b <;> simp
 ·rw [List.getElem?_set_ne (fun e=>hj e.symm)] at hu
  rw [wAt_else hj]
  exact hvs j u hu

def RowU (w:World) (g:Nat) (ps:List Int):Prop:=∃ cur:Array Value,w.heap[g]?=some (.cells cur 76 (0,0)) ∧ ∀ (i:Nat) (x:Int),ps[i]?=some x → cur[i]?=some (Value.int .u64 x)

theorem RowU.cell {w:World} {g:Nat} {ps:List Int} (h:RowU w g ps) {i:Nat} {x:Int} (hx:ps[i]?=some x):w.cell? ⟨g,i,none⟩=some (.int .u64 x):=by
 obtain ⟨cur,h1,h2⟩:=h
 rw [cell_of_row w g i _ _ _ h1]
 simp only [h2 i x hx]

theorem RowU.frozen {w:World} {g:Nat} {ps:List Int} (h:RowU w g ps) (i:Nat):w.frozen? ⟨g,i,none⟩=false:=by
 obtain ⟨cur,h1,h2⟩:=h
 exact frozen_of_row w g i _ _ h1

theorem RowU.lt {w:World} {g:Nat} {ps:List Int} (h:RowU w g ps):g < w.heap.size:=by
 obtain ⟨cur,h1,h2⟩:=h
 exact lt_of_heap h1

theorem RowU.keep {G:Nat → Prop} {w w':World} {g:Nat} {ps:List Int} (h:RowU w g ps) (hu:Upd G w w') (hg:¬ G g):RowU w' g ps:=by
 have hl:=h.lt
 obtain ⟨cur,h1,h2⟩:=h
 exact ⟨cur,(hu.block g hl hg).trans h1,h2⟩

theorem RowU.words {w:World} {g:Nat} {ps:List Int} (h:RowU w g ps) (hr:∀ x ∈ ps,0 ≤ x ∧ x < 2 ^ 64):WordsAt w (some ⟨g,0,none⟩) ps:=fun i x hx=>⟨hr x (List.mem_of_getElem? hx),g,0,rfl,by rw [Nat.zero_add];exact h.cell hx⟩

theorem RowU.set {w:World} {g:Nat} {ps:List Int} (h:RowU w g ps) (i:Nat) (y:Int) (hi:i < ps.length):RowU (w.setCell ⟨g,i,none⟩ (.int .u64 y)) g (ps.set i y):=by
 obtain ⟨cur,h1,h2⟩:=h
 refine ⟨_,Go.heap_setCell_same w g i _ _ (.int .u64 y) h1,fun j x hx=>?_⟩
 rw [Array.getElem?_setIfInBounds]
 by_cases hj:i=j
 ·subst hj
  have hc:=h2 i ps[i] (by simp [hi])
  have hs:i < cur.size:=(Array.getElem?_eq_some_iff.1 hc).1
  rw [if_pos rfl,if_pos hs]
  simp [hi] at hx
  rw [hx]
 ·rw [if_neg hj]
  rw [List.getElem?_set_ne hj] at hx
  exact h2 j x hx

theorem rowU_made {w:World} {blk n:Nat} (h:w.ownsRow blk 76 1 (.slice (some ⟨blk,0,none⟩) n n) n (madeCells (Value.int .u64 0).cells (n * 1)).toList):RowU w blk (List.replicate n 0):=by
 have e:(madeCells (Value.int .u64 0).cells (n * 1)).toList=(List.replicate n (0:Int)).map (Value.int .u64):=by
  rw [List.map_replicate,Nat.mul_one]
  simp [madeCells,Value.cells,Nat.mod_one]
  rw [List.map_const',List.length_range]
 rw [e] at h
 rcases h.2 with ⟨h0,_⟩ | ⟨g',cap',cur,hv,hb,hg,_,_,hs,ht⟩
 ·cases h0
 ·cases hv
  obtain ⟨cur0,hcur0⟩:=owns_type h (k:=blk) rfl
  refine ⟨cur,hg,fun i x hx=>?_⟩
  have h1:((List.replicate n (0:Int)).map (Value.int .u64))[i]?=some (.int .u64 x):=by rw [List.getElem?_map,hx];rfl
  rw [← ht,List.getElem?_take] at h1
  split at h1
  ·rw [Array.getElem?_toList] at h1
   exact h1
  ·cases h1

theorem info_u64:(Tryz.prog.info? 76).map (fun i=>(i.zero,i.size,i.bytes))=some (some (.int .u64 0),1,8):=by kernel_rfl

theorem wordsL_range {ts:List Bool} {x:Int} (h:x ∈ wordsL ts):0 ≤ x ∧ x < 2 ^ 64:=by
 unfold wordsL at h
 obtain ⟨w,_,rfl⟩:=List.mem_map.1 h
 have h1:=numL_lt ((ts.drop (64 * w)).take 64)
 have h2:((ts.drop (64 * w)).take 64).length ≤ 64:=by rw [List.length_take];omega
 have h3:2 ^ ((ts.drop (64 * w)).take 64).length ≤ 2 ^ 64:=Nat.pow_le_pow_right (by decide) h2
 have e64:(2:Nat) ^ 64=18446744073709551616:=rfl
 have e64':(2:Int) ^ 64=18446744073709551616:=rfl
 omega

set_option maxRecDepth 100000 in
theorem setOf_calls (n:Int) (B cap:Nat) (ts:List Bool) (w:World) (hB:BoolsAt w B ts) (hl:ts.length ≤ 65536) (h0:1 ≤ ts.length) :
  Calls Tryz.prog 40 #[.int .i64 n,.slice (some ⟨B,0,none⟩) ts.length cap] w fun e w'=>∃ g,w.heap.size ≤ g ∧ e=.returned (.agg #[.int .i64 n,.slice (some ⟨g,0,none⟩) (wordsL ts).length (wordsL ts).length]) ∧ RowU w' g (wordsL ts) ∧ Keeps w w':=by
 have hwl:=wordsL_len ts
 obtain ⟨j0,hj,jz0,jz1,jz2⟩:=info_parts info_u64
 obtain ⟨N,hN⟩:∃ N,N=ts.length:=⟨_,rfl⟩
 rw [← hN] at hl h0 hwl ⊢
 obtain ⟨K,hK⟩:∃ K,K=(N + 63) / 64:=⟨_,rfl⟩
 rw [← hK] at hwl
 rw [hwl]
 have HB:=Lib.hid hB
 have HN:=Lib.hid hN
 have HWL:=Lib.hid hwl
 have hKi:((N:Int) + 63) / 64=(K:Int):=by omega
 have hK1:K ≤ 1025:=by omega
 have hKx:∀ x:Nat,x < N → x / 64 < K:=fun x hx=>by omega
 have HKX:=Lib.hid hKx
 clear hB hN hwl hKx hK
 go_enter Tryz.func40,Tryz.ntmps40
 go_wp2_with (first
  | (at_make;refine wpList_make_full _ rfl _ _ 47 rfl (w.heap.size + 1) 76 j0 (.int .u64 0) 1 Tryz.underlying47 hj jz0 jz1 .i64 .i64 _ _ K rfl rfl hKi hKi (by rw [jz2];omega) (by unfold maxLen;omega) (by simp) ?_;intro w1 hown1 hg1)
  | fail)
 rw [World.size_alloc] at hown1
 have HR1:=Lib.hid (rowU_made hown1)
 have hkk:Keeps (w.alloc (.cells #[.int .i64 0,.slice none 0 0] 81)) w1:=⟨hg1.os,hg1.tape,hg1.output,hg1.size,fun i hi=>hg1.block i hi (by simp)⟩
 have HKK:=Lib.hid (((Keeps.refl w).alloc _).trans hkk)
 have z0:=hkk.cell (a:=⟨w.heap.size,0,none⟩) (v:=.int .i64 0) (by simp [go_sem])
 have z1:=hkk.cell (a:=⟨w.heap.size,1,none⟩) (v:=.slice none 0 0) (by simp [go_sem])
 have zf:=fun o:Nat=>hkk.frz (a:=⟨w.heap.size,o,none⟩) (by simp) (by simp [go_sem])
 have s1:=hkk.size
 simp only [World.size_alloc] at s1
 clear hown1 hg1 hkk
 go_wp2_with fail
 go_loopg [6] N (fun gk s6 wr=>∃ vs:List Int,s6=.int .i64 ((gk:Int) - 1) ∧ gk ≤ N ∧ vs.length=K ∧ (∀ (j:Nat) (v:Int),vs[j]?=some v → v=(wAt ts gk j:Int)) ∧ RowU wr (w.heap.size + 1) vs ∧ Upd (fun k=>k=w.heap.size + 1) w1 wr)
 case atStart=>exact ⟨List.replicate K 0,rfl,Nat.le_refl _,by simp,fun j v hv=>by
  have hj:j < K:=by have:=(List.getElem?_eq_some_iff.1 hv).1;simpa using this
  rw [List.getElem?_replicate,if_pos hj] at hv
  rw [← Option.some.inj hv,HN.out,wAt_top]
  rfl,HR1.out,Upd.refl _ _⟩
 case round=>
  obtain ⟨vs,rfl,hgN,hvl,hvs,hR,hu⟩:=hrel
  have HR:=Lib.hid hR
  have HU:=Lib.hid hu
  have HVS:=Lib.hid hvs
  have HVL:=Lib.hid hvl
  clear hR hu hvs hvl
  by_cases hg0:0 < gk
  ·obtain ⟨x,hxg⟩:∃ x,x=gk - 1:=⟨_,rfl⟩
   have hgx:gk=x + 1:=by omega
   have HGX:=Lib.hid hgx
   rw [show ((gk:Int) - 1)=(x:Int) from by omega]
   have hxN:x < N:=by omega
   have hxK:=HKX.out x hxN
   obtain ⟨v,hv⟩:∃ b,vs[x / 64]?=some b:=⟨_,List.getElem?_eq_getElem (by rw [HVL.out];exact hxK)⟩
   have hve:=HVS.out _ v hv
   have hlt63:=wAt_lt ts x
   rw [HGX.out] at hve
   have v0:0 ≤ v:=by omega
   have v1:v ≤ 9223372036854775807:=by
    have e63:(2:Nat) ^ 63=9223372036854775808:=rfl
    omega
   obtain ⟨b,hb⟩:∃ b,ts[x]?=some b:=⟨_,List.getElem?_eq_getElem (by rw [← HN.out];exact hxN)⟩
   have hkw:=(HKK.out.new HU.out (fun k hk=>by omega))
   have cb:=(HB.out.keep (Keeps.upd hkw (fun _=>False)) (fun h=>h)).cell hb
   have cv:=HR.out.cell hv
   have cf:=HR.out.frozen (x / 64)
   have hbl:=lt_of_cell cb
   have hrl:=HR.out.lt
   dsimp only at hbl
   have HV:=Lib.hid hv
   have HVE:=Lib.hid hve
   have HBB:=Lib.hid hb
   have nBw:w.heap.size + 1 ≠ B:=fun e=>by have:=HB.out.lt;omega
   have nBw2:B ≠ w.heap.size + 1:=fun e=>nBw e.symm
   have wh:=wAt_here hb
   have HWH:=Lib.hid wh
   clear hv hve hlt63 hb hxg hgx wh
   cases b with
   | true=>
    go_wp2_with fail
    go_roundg (gk - 1)
    case rel=>
     refine ⟨vs.set (x / 64) (2 * v + 1),congrArg (Value.int .i64) (by have:=HGX.out;omega),by omega,by rw [List.length_set,HVL.out],fun j u hj=>?_,?_,?_⟩
     ·have:=HGX.out
      rw [show gk - 1=x from by omega]
      exact wAt_step (fun j v h=>by have h2:=HVS.out j v h;rw [HGX.out] at h2;exact h2) HBB.out HV.out (by simp;omega) j u hj
     ·have:=(HR.out.set (x / 64) (2 * v) (by rw [HVL.out];exact hxK)).set (x / 64) (2 * v + 1) (by rw [List.length_set,HVL.out];exact hxK)
      rwa [List.set_set] at this
     ·exact (HU.out.setCell (p:=⟨w.heap.size + 1,x / 64,none⟩) (.inl rfl) _).setCell (p:=⟨w.heap.size + 1,x / 64,none⟩) (.inl rfl) _
    case measure=>omega
   | false=>
    go_wp2_with fail
    go_roundg (gk - 1)
    case rel=>
     refine ⟨vs.set (x / 64) (2 * v),congrArg (Value.int .i64) (by have:=HGX.out;omega),by omega,by rw [List.length_set,HVL.out],fun j u hj=>?_,?_,?_⟩
     ·have:=HGX.out
      rw [show gk - 1=x from by omega]
      exact wAt_step (fun j v h=>by have h2:=HVS.out j v h;rw [HGX.out] at h2;exact h2) HBB.out HV.out (by simp) j u hj
     ·exact HR.out.set (x / 64) (2 * v) (by rw [HVL.out];exact hxK)
     ·exact HU.out.setCell (p:=⟨w.heap.size + 1,x / 64,none⟩) (.inl rfl) _
    case measure=>omega
  ·have hz:gk=0:=by omega
   subst hz
   have hfin:vs=wordsL ts:=by
    apply List.ext_getElem?
    intro j
    by_cases hj:j < K
    ·obtain ⟨v,hv⟩:∃ b,vs[j]?=some b:=⟨_,List.getElem?_eq_getElem (by rw [HVL.out];exact hj)⟩
     have h1:=HVS.out j v hv
     rw [wAt_zero] at h1
     have h2:=wordsL_get (ts:=ts) (w:=j) (by rw [← wordsL_len,HWL.out];exact hj)
     rw [List.getD_eq_getElem?_getD] at h2
     obtain ⟨u,hu2⟩:∃ b,(wordsL ts)[j]?=some b:=⟨_,List.getElem?_eq_getElem (by rw [HWL.out];exact hj)⟩
     rw [hu2] at h2
     rw [hv,hu2,h1,← h2]
     rfl
    ·rw [List.getElem?_eq_none (by rw [HVL.out];omega),List.getElem?_eq_none (by rw [HWL.out];omega)]
   have hRf:=HR.out
   rw [hfin] at hRf
   have hUf:=HU.out
   have y0:=hUf.cellAt (by omega) z0
   have y1:=hUf.cellAt (by omega) z1
   have yf:=fun o:Nat=>hUf.frozen (a:=⟨w.heap.size,o,none⟩) (by dsimp only;omega) (by dsimp only;omega) (zf o)
   have hkw:=(HKK.out.new hUf (fun k hk=>by omega))
   have hws:=hUf.size
   have hwl:w.heap.size < wr.heap.size:=by omega
   have HRF:=Lib.hid hRf
   have HUF:=Lib.hid hUf
   have HKW:=Lib.hid hkw
   clear hRf hUf hkw z0 z1 zf hfin
   go_wp2_with fail
   refine bodyPost_ret (v:=.agg #[.int .i64 n,.slice (some ⟨w.heap.size + 1,0,none⟩) K K]) (by simp [results,Tryz.results40,go_sem,y0,y1,hwl]) rfl ⟨w.heap.size + 1,by omega,rfl,?_,?_⟩
   ·exact HRF.out.keep ((Upd.refl (fun k=>k=w.heap.size) wr).setCell (p:=⟨w.heap.size,0,none⟩) (.inl rfl) _ |>.setCell (p:=⟨w.heap.size,1,none⟩) (.inl rfl) _) (by omega)
   ·exact HKW.out.new ((Upd.refl (fun k=>k=w.heap.size) wr).setCell (p:=⟨w.heap.size,0,none⟩) (.inl rfl) _ |>.setCell (p:=⟨w.heap.size,1,none⟩) (.inl rfl) _) (fun k hk=>by omega)

end Go.Proofs.YtiifimnpmbfihaaGreat
