/-
  ramageref04.Same.
-/
import Derived.Test.YtiifimnpmbfihaaGreatPWireB
namespace Go.Proofs.YtiifimnpmbfihaaGreat
set_option linter.unusedSimpArgs false
set_option linter.unusedVariables false
set_option maxHeartbeats 600000
open Go.RowKit

theorem same04_calls (a b:Option Addr) (cap cap2:Nat) (ps qs:List Int) (w:World) (h1:BsAt w a ps) (h2:BsAt w b qs) (hl1:ps.length ≤ 1073741824) (hl2:qs.length ≤ 1073741824) :
  Calls Tryz.prog 22 #[.slice a ps.length cap,.slice b qs.length cap2] w fun e w'=>e=.returned (.bool (decide (ps=qs))) ∧ Keeps w w':=by
 by_cases hne:ps.length=qs.length
 ·obtain ⟨N,hN⟩:∃ N,N=ps.length:=⟨_,rfl⟩
  have hM:N=qs.length:=hN.trans hne
  rw [← hM,← hN]
  rw [← hN] at hl1
  have H1:=Lib.hid h1
  have H2:=Lib.hid h2
  have HN:=Lib.hid hN
  have HM:=Lib.hid hM
  clear h1 h2 hN hM hne hl2
  go_enter Tryz.func22,Tryz.ntmps22
  go_wp2
  go_loopg [5] N (fun gk s5 wr=>∃ d:Nat,s5=.int .i64 (d:Int) ∧ d + gk=N ∧ (∀ i,i < d → ps[i]?=qs[i]?) ∧ Keeps w wr)
  case atStart=>exact ⟨0,rfl,by omega,fun i hi=>by omega,by (exact kp)⟩
  case round=>
   obtain ⟨d,rfl,hd,hn,hk⟩:=hrel
   have HNN:=Lib.hid hn
   clear hn
   by_cases hlt:d < N
   ·obtain ⟨x,hx⟩:∃ b,ps[d]?=some b:=⟨_,List.getElem?_eq_getElem (by rw [← HN.out];exact hlt)⟩
    obtain ⟨y,hy⟩:∃ b,qs[d]?=some b:=⟨_,List.getElem?_eq_getElem (by rw [← HM.out];exact hlt)⟩
    obtain ⟨b1,o1,rfl,c0⟩:=H1.out d x hx
    obtain ⟨b2,o2,rfl,c1⟩:=H2.out d y hy
    replace c0:=hk.cell c0
    replace c1:=hk.cell c1
    have HX:=Lib.hid hx
    have HY:=Lib.hid hy
    have i0:(0:Int) ≤ (d:Int):=by omega
    have i1:(d:Int) < (N:Int):=by omega
    clear hx hy
    by_cases hab:x=y
    ·subst hab
     go_wp2_with fail
     go_quiet (fail)
     go_wp2
     go_roundg (gk - 1)
     case rel=>
      refine ⟨d + 1,by simp,by omega,fun i hi=>?_,by (exact kp)⟩
      by_cases e:i=d
      ·subst e;rw [HX.out,HY.out]
      ·exact HNN.out i (by omega)
     case measure=>omega
    ·have gab:(x != y)=true:=by simp [hab]
     have hf:Hid (¬ ps=qs):=Lib.hid (fun e=>by have:=HX.out;rw [e,HY.out] at this;exact hab (Option.some.inj this).symm)
     go_wp2_with fail
     go_quiet (fail)
     go_wp2
     go_ret
     exact ⟨by rw [decide_eq_false hf.out];rfl,by (exact kp)⟩
   ·have hg0:d=N:=by omega
    have hh:ps=qs:=by
     apply List.ext_getElem?
     intro i
     by_cases hi:i < d
     ·exact HNN.out i hi
     ·rw [List.getElem?_eq_none (by rw [← HN.out];omega),List.getElem?_eq_none (by rw [← HM.out];omega)]
    have HH:=Lib.hid hh
    clear hg0 hh
    go_wp2_with fail
    go_ret
    exact ⟨by rw [decide_eq_true HH.out];rfl,hk⟩
 ·have hf:decide (ps=qs)=false:=decide_eq_false (fun e=>hne (by rw [e]))
  obtain ⟨N,hN⟩:∃ N,N=ps.length:=⟨_,rfl⟩
  obtain ⟨K,hK⟩:∃ K,K=qs.length:=⟨_,rfl⟩
  rw [hf]
  rw [← hN,← hK] at hne ⊢
  have gne:((N:Int) != (K:Int))=true:=by simp;omega
  clear h1 h2 hl1 hl2 hN hK hf hne
  go_enter Tryz.func22,Tryz.ntmps22
  go_wp2
  go_ret
  exact ⟨rfl,by (exact kp)⟩

open Go Go.RowKit

theorem bsRow_new (w:World) (x:Int):BsRow w.heap.size (w.alloc (.cells #[.int .u8 x] 5)) (.slice (some ⟨w.heap.size,0,none⟩) 1 1) [x]:=
 ⟨rfl,.inr ⟨w.heap.size,1,#[.int .u8 x],rfl,Nat.le_refl _,heap_alloc_new w _,Nat.le_refl _,by unfold maxLen;omega,rfl,rfl⟩⟩

theorem Upd.of_row' {w w':World} {v:Value} (h:w.grownBy w' v.ownBlock):Upd (fun k=>v.ownBlock=some k) w w':=⟨h.os,h.tape,h.output,h.size,fun i hi hne=>h.block i hi (fun e=>hne e.symm)⟩

set_option maxRecDepth 100000 in
theorem refBytes_calls:∀ (N n:Nat),n < N → n < 2 ^ 64 → ∀ (w:World),Calls Tryz.prog 93 #[.int .u64 (n:Int)] w fun e w'=>∃ v,e=.returned v ∧ BsRow w.heap.size w' v (putB n) ∧ Keeps w w':=by
 intro N
 induction N with
 | zero=>intro n h;omega
 | succ N ih=>
  intro n hN hn w
  by_cases hlt:n < 128
  ·have hr:=bsRow_new w (n:Int)
   rw [← putB_low hlt] at hr
   have HR:=Lib.hid hr
   clear hr hN
   have hwb:IntKind.u8.wrap (n:Int)=(n:Int):=by rw [wrap_byte,Nat.mod_eq_of_lt (by omega)]
   go_enter Tryz.func93,Tryz.ntmps93
   go_wp2
   go_ret
   exact ⟨_,rfl,HR.out,by (exact kp)⟩
  ·have e1:((n % 128 + 128:Nat):Int)=(n:Int) % 128 + 128:=by omega
   have e2:((n / 128:Nat):Int)=(n:Int) / 128:=by omega
   have hi:=fun (W:World)=>ih (n / 128) (by omega) (by omega) W
   rw [e2] at hi
   have HI:=Lib.hid hi
   have HR:=Lib.hid (bsRow_new w ((n:Int) % 128 + 128))
   have hp:=putB_more hlt
   have hwb:=wrap_byte (n % 128 + 128)
   rw [e1] at hp hwb
   rw [Nat.mod_eq_of_lt (by omega),e1] at hwb
   have HP:=Lib.hid hp
   have HL:=Lib.hid (putB_len10 (n:=n / 128) (by omega))
   have HPOS:=Lib.hid (putB_pos (n / 128))
   clear hi ih hN e1 e2 hp
   go_enter Tryz.func93,Tryz.ntmps93
   go_wp2_with (first
    | (go_at_call 93;refine (HI.out _).mono ?_;rintro e w1 ⟨v1,rfl,hr1,hk1⟩;have HR1:=Lib.hid hr1;have HK1:=Lib.hid hk1;have hs1:=hk1.size;simp only [World.size_alloc] at hs1;clear hr1 hk1)
    | (at_builtin;refine wpB_append rfl _ _ rfl w.heap.size _ _ _ _ _ rfl rfl (HR.out.keeps HK1.out) HR1.out (by have:=HL.out;simp only [List.length_singleton];omega) (by omega) ?_;intro v2 w2 hr2 hg2;have HR2:=Lib.hid hr2;have HG2:=Lib.hid hg2;clear hr2 hg2)
    | fail)
   go_ret
   refine ⟨v2,rfl,by rw [HP.out];exact HR2.out,((Keeps.refl w).alloc _ |>.trans HK1.out).new (Upd.of_row' HG2.out) (fun k hk=>?_)⟩
   exact row_from HR.out hk

end Go.Proofs.YtiifimnpmbfihaaGreat
